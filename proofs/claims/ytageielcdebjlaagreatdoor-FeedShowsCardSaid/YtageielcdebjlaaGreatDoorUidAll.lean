/- Plain facts on identifiers of events, and on decimal numbers. No program in sight. Condition: none. Identifiers of events: contracts of feed.right, timetableref40.right and decimal. Codes and labels: contracts of timetableref03.Valid and of both label functions; of timetableref40.right. Labels and identifiers: contracts of both label functions and of timetableref40.right. Plain facts on events and feeds: what is valid. No program in sight. Condition: none. timetableref40.right: its contract. -/
import Derived.Lib.ItoaNum
import Derived.Lib.IndexMore
import Derived.Lib.IndexLaws
import Derived.Lib.IndexBytes
import Derived.Test.YtageielcdebjlaaGreatDoorPk5
import Derived.Test.YtageielcdebjlaaGreatDoorEscAll
import Derived.Test.YtageielcdebjlaaGreatDoorPk1
import Derived.Deep.RegionHeld3
-- Uid
namespace Tt
open Go.Lib (decDigits cut index indexByte)

/-- The digits of a number, at least so many, ahead of others. -/
def decim (n m : Nat) (acc : List UInt8) : List UInt8 :=
  if h : n = 0 ∧ m = 0 then acc else decim (n / 10) (m - 1) (UInt8.ofNat (48 + n % 10) :: acc)
termination_by n + m
decreasing_by omega

theorem decim_end (acc : List UInt8) : decim 0 0 acc = acc := by rw [decim, dif_pos ⟨rfl, rfl⟩]
theorem decim_step (n m : Nat) (acc : List UInt8) (h : ¬ (n = 0 ∧ m = 0)) : decim n m acc = decim (n / 10) (m - 1) (UInt8.ofNat (48 + n % 10) :: acc) := by rw [decim, dif_neg h]

theorem decim_zero : ∀ (k n : Nat), n ≤ k → 1 ≤ n → ∀ acc, decim n 0 acc = decDigits n ++ acc
  | 0, n, h, h1, _ => by omega
  | k + 1, n, h, h1, acc => by
    rw [decim_step n 0 acc (by omega)]
    by_cases h2 : n < 10
    · rw [show n / 10 = 0 by omega, decim_end, Go.Lib.decDigits_one h2, Nat.mod_eq_of_lt h2]; rfl
    · rw [decim_zero k (n / 10) (by omega) (by omega), decDigits.eq_def n, dif_neg h2]
      simp
theorem decim_one (n : Nat) (acc : List UInt8) : decim n 1 acc = decDigits n ++ acc := by
  rw [decim_step n 1 acc (by omega)]
  by_cases h2 : n < 10
  · rw [show n / 10 = 0 by omega, decim_end, Go.Lib.decDigits_one h2, Nat.mod_eq_of_lt h2]; rfl
  · rw [decim_zero _ (n / 10) (Nat.le_refl _) (by omega), decDigits.eq_def n, dif_neg h2]
    simp

theorem decDigits_digit : ∀ (k n : Nat), n ≤ k → ∀ c ∈ decDigits n, 48 ≤ c.toNat ∧ c.toNat ≤ 57
  | 0, n, h, c, hc => by
    rw [Go.Lib.decDigits_one (by omega), List.mem_singleton] at hc
    subst hc; rw [show n = 0 by omega]; decide
  | k + 1, n, h, c, hc => by
    rw [decDigits.eq_def] at hc
    split at hc
    · rename_i h2
      rw [List.mem_singleton] at hc
      subst hc; rw [UInt8.toNat_ofNat_of_lt' (show 48 + n < UInt8.size by show 48 + n < 256; omega)]
      omega
    · rename_i h2
      rcases List.mem_append.1 hc with h3 | h3
      · exact decDigits_digit k (n / 10) (by omega) c h3
      · rw [List.mem_singleton] at h3
        subst h3; have : n % 10 < 10 := Nat.mod_lt _ (by decide)
        rw [UInt8.toNat_ofNat_of_lt' (show 48 + n % 10 < UInt8.size by show 48 + n % 10 < 256; omega)]
        omega

/-- Is a text the number of a week, from w on? -/
def numFrom (n : List UInt8) (w : Nat) : Bool := decide (∃ j : Nat, j < 21 ∧ w ≤ j ∧ n = decDigits j)
theorem numFrom_end (n : List UInt8) : numFrom n 21 = false := by
  unfold numFrom; rw [decide_eq_false_iff_not]; rintro ⟨j, h1, h2, _⟩; omega
theorem numFrom_hit (n : List UInt8) (w : Nat) (h1 : w ≤ 20) (h : n = decDigits w) : numFrom n w = true := by
  unfold numFrom; rw [decide_eq_true_iff]; exact ⟨w, by omega, Nat.le_refl _, h⟩
theorem numFrom_step (n : List UInt8) (w : Nat) (h : n ≠ decDigits w) : numFrom n w = numFrom n (w + 1) := by
  unfold numFrom
  congr 1
  apply propext
  constructor
  · rintro ⟨j, h1, h2, h3⟩; rcases Nat.lt_or_ge w j with h4 | h4
    · exact ⟨j, h1, h4, h3⟩
    · obtain rfl : w = j := by omega
      exact absurd h3 h
  · rintro ⟨j, h1, h2, h3⟩; exact ⟨j, h1, by omega, h3⟩
theorem numFrom_no (n : List UInt8) (w : Nat) (h : numFrom n w = true) : (64 : UInt8) ∉ n := by
  unfold numFrom at h
  rw [decide_eq_true_iff] at h
  obtain ⟨j, _, _, rfl⟩ := h; intro h64; have := decDigits_digit j j (Nat.le_refl _) _ h64
  have h2 : (64 : UInt8).toNat = 64 := rfl
  omega

theorem cut_first (a b : List UInt8) (h : (64 : UInt8) ∉ a) : cut (a ++ 64 :: b) [64] = (a, b, true) := by
  unfold Go.Lib.cut
  rw [Go.Lib.index_one]
  have hg : (a ++ 64 :: b)[a.length]? = some 64 := by simp
  by_cases h0 : 0 ≤ indexByte (a ++ 64 :: b) 64
  · obtain ⟨o, ho⟩ : ∃ o : Nat, indexByte (a ++ 64 :: b) 64 = o := ⟨(indexByte (a ++ 64 :: b) 64).toNat, by omega⟩
    obtain ⟨h1, h2⟩ := Go.Lib.indexByte_some ho
    have : o = a.length := by
      rcases Nat.lt_trichotomy o a.length with h3 | h3 | h3
      · rw [List.getElem?_append_left h3] at h1
        exact absurd (List.mem_of_getElem? h1) h
      · exact h3
      · exact absurd hg (h2 _ h3)
    rw [if_pos h0, ho, this]
    simp
  · exact absurd hg (Go.Lib.indexByte_none (by have := Go.Lib.indexByte_ge (a ++ 64 :: b) 64; omega) _)

/-- Is a text an identifier: a code, an at sign, a number? The code is asked by p. -/
def rightP (p : List UInt8 → Bool) (l : List UInt8) : Bool := (cut l [64]).2.2 && p (cut l [64]).1 && numFrom (cut l [64]).2.1 1

theorem first_split : ∀ (a : List UInt8), (64 : UInt8) ∈ a → ∃ a1 a2, a = a1 ++ 64 :: a2 ∧ (64 : UInt8) ∉ a1
  | [], h => by cases h
  | c :: t, h => by
    by_cases hc : c = 64
    · subst hc; exact ⟨[], t, rfl, by simp⟩
    · rcases List.mem_cons.1 h with e | e
      · exact absurd e.symm hc
      · obtain ⟨a1, a2, h1, h2⟩ := first_split t e
        exact ⟨c :: a1, a2, by rw [h1]; rfl, by simp [Ne.symm hc, h2]⟩

/-- The last at sign serves as well as the first one. -/
theorem rightP_last (p : List UInt8 → Bool) (hp : ∀ a, p a = true → (64 : UInt8) ∉ a) (a b : List UInt8) : rightP p (a ++ 64 :: b) = (p a && numFrom b 1) := by
  by_cases ha : (64 : UInt8) ∈ a
  · obtain ⟨a1, a2, rfl, h1⟩ := first_split a ha
    have h2 : p (a1 ++ 64 :: a2) = false := by
      cases h : p (a1 ++ 64 :: a2) with
      | false => rfl
      | true => exact absurd (by simp) (hp _ h)
    have h3 : numFrom (a2 ++ 64 :: b) 1 = false := by
      cases h : numFrom (a2 ++ 64 :: b) 1 with
      | false => rfl
      | true => exact absurd (by simp) (numFrom_no _ _ h)
    unfold rightP
    rw [List.append_assoc, List.cons_append, cut_first _ _ h1, h2]
    simp [h3]
  · unfold rightP
    rw [cut_first _ _ ha]
    simp
end Tt

-- UidW
namespace Go.Proofs.YtageielcdebjlaaGreatDoor
open Go.RowKit

theorem code_no_at (a : List UInt8) (h : Tt.code a = true) : (64 : UInt8) ∉ a := by
  intro hm; cases a with
  | nil => cases hm
  | cons c t =>
    unfold Tt.code at h
    simp only [Bool.and_eq_true] at h
    obtain ⟨⟨_, h1⟩, h2⟩ := h
    rcases List.mem_cons.1 hm with e | e
    · subst e; exact absurd h1 (by decide)
    · unfold Tt.codeTail at h2
      have := List.all_eq_true.1 h2 64 e
      exact absurd this (by decide)

def rightB (l : List UInt8) : Bool := Tt.rightP Tt.code l

theorem of_data {s : ByteArray} {l : List UInt8} (h : s.data.toList = l) : s = ⟨l.toArray⟩ := by rw [← h, Lib.mk_data]

set_option maxHeartbeats 1000000 in
theorem cut248 (s : ByteArray) (w : World) (hs : s.size ≤ 4611686018427387904) :
    Calls Tryz.prog 248 #[.string s, .string ⟨#[64]⟩] w fun e w' => e = .returned (.tuple #[.string ⟨(Lib.cut s.data.toList [64]).1.toArray⟩, .string ⟨(Lib.cut s.data.toList [64]).2.1.toArray⟩, .bool (Lib.cut s.data.toList [64]).2.2]) ∧ ∃ n, w' = w.drewN n := by
  have HI := Lib.hid (show Lib.index s.data.toList [64] = Lib.indexByte s.data.toList 64 from Lib.index_one _ _)
  have hge := Lib.indexByte_ge s.data.toList 64
  by_cases h0 : 0 ≤ Lib.indexByte s.data.toList 64
  · obtain ⟨o, ho⟩ : ∃ o : Nat, Lib.indexByte s.data.toList 64 = o := ⟨(Lib.indexByte s.data.toList 64).toNat, by omega⟩
    have hlt : o < s.size := by
      have := List.getElem?_eq_some_iff.1 (Lib.indexByte_some ho).1
      rw [Lib.size_eq]; exact this.1
    have HC := Lib.hid (show Lib.cut s.data.toList [64] = (s.data.toList.take o, s.data.toList.drop (o + 1), true) by
      unfold Lib.cut; rw [HI.out, if_pos h0, ho]; rfl)
    have HO := Lib.hid ho; have HE1 := Lib.hid (of_data (Lib.extract_from_zero s o))
    have HE2 := Lib.hid (of_data (Lib.extract_to_end s (o + 1)))
    clear h0 hge ho HI; go_enter Tryz.func248, Tryz.ntmps248
    go_wp2_with fail
    refine (Tryz.stringslite_Index_one s 64 _).mono ?_
    rintro e w1 ⟨rfl, hw⟩; rw [hw, HO.out]
    clear hw w1; have g1 : (0 : Int) ≤ (o : Int) := by omega
    have g2 : (o : Int) ≤ (s.size : Int) := by omega
    have g3 : IntKind.i64.wrap ((o : Int) + 1) = (o : Int) + 1 := by rw [IntKind.wrap_i64]; omega
    have g4 : ((o : Int) + 1).toNat = o + 1 := by omega
    have g5 : (o : Int) + 1 ≤ (s.size : Int) := by omega
    have g6 : (0 : Int) ≤ (o : Int) + 1 := by omega
    go_wp2_with fail
    go_quiet (fail)
    clear g1 g2 g3 g4 g5 g6; go_wp2_with fail
    refine bodyPost_ret (v := .tuple #[.string (s.extract 0 o), .string (s.extract (o + 1) s.size), .bool true]) (by simp [results, Tryz.results248, go_sem]) rfl ?_
    refine ⟨?_, _, rfl⟩
    rw [HC.out, HE1.out, HE2.out]
  · have HC := Lib.hid (show Lib.cut s.data.toList [64] = (s.data.toList, [], false) by
      unfold Lib.cut; rw [HI.out, if_neg h0])
    have HO := Lib.hid (show Lib.indexByte s.data.toList 64 = -1 by omega)
    clear h0 hge HI; go_enter Tryz.func248, Tryz.ntmps248
    go_wp2_with fail
    refine (Tryz.stringslite_Index_one s 64 _).mono ?_
    rintro e w1 ⟨rfl, hw⟩; rw [hw, HO.out]
    clear hw w1; go_wp2_with fail
    refine bodyPost_ret (v := .tuple #[.string s, .string ⟨#[]⟩, .bool false]) (by simp [results, Tryz.results248, go_sem]) rfl ?_
    refine ⟨?_, 0, rfl⟩
    rw [HC.out, Lib.mk_data]

set_option maxHeartbeats 1000000 in
theorem cut166 (s : ByteArray) (w : World) (hs : s.size ≤ 4611686018427387904) :
    Calls Tryz.prog 166 #[.string s, .string ⟨#[64]⟩] w fun e w' => e = .returned (.tuple #[.string ⟨(Lib.cut s.data.toList [64]).1.toArray⟩, .string ⟨(Lib.cut s.data.toList [64]).2.1.toArray⟩, .bool (Lib.cut s.data.toList [64]).2.2]) ∧ ∃ n, w' = w.drewN n := by
  go_enter Tryz.func166, Tryz.ntmps166
  go_wp2_with fail
  refine (cut248 s w hs).mono ?_
  rintro e w1 ⟨rfl, n, hw⟩; rw [hw]
  clear hw w1; go_wp2_with fail
  exact bodyPost_ret (v := .tuple #[.string ⟨(Lib.cut s.data.toList [64]).1.toArray⟩, .string ⟨(Lib.cut s.data.toList [64]).2.1.toArray⟩, .bool (Lib.cut s.data.toList [64]).2.2]) (by simp [results, Tryz.results166, go_sem]) rfl ⟨rfl, _, rfl⟩

set_option maxHeartbeats 2000000 in
set_option maxRecDepth 100000 in
theorem right95 (s : ByteArray) (w : World) (hs : s.size ≤ 4611686018427387904) :
    Calls Tryz.prog 95 #[.string s] w fun e w' => e = .returned (.bool (rightB s.data.toList)) ∧ Below w.heap.size w w' := by
  have HC := Lib.hid (cut166 s w hs)
  have HR := Lib.hid (show rightB s.data.toList = ((Lib.cut s.data.toList [64]).2.2 && Tt.code (Lib.cut s.data.toList [64]).1 && Tt.numFrom (Lib.cut s.data.toList [64]).2.1 1) from rfl)
  obtain ⟨a, ha⟩ : ∃ a, a = (Lib.cut s.data.toList [64]).1 := ⟨_, rfl⟩
  obtain ⟨b, hb⟩ : ∃ b, b = (Lib.cut s.data.toList [64]).2.1 := ⟨_, rfl⟩
  obtain ⟨f, hf⟩ : ∃ f, f = (Lib.cut s.data.toList [64]).2.2 := ⟨_, rfl⟩
  have HA := Lib.hid ha; have HB := Lib.hid hb; have HF := Lib.hid hf; rw [← ha, ← hb, ← hf] at HR
  clear ha hb hf; go_enter Tryz.func95, Tryz.ntmps95
  go_wp2_with fail
  refine HC.out.mono ?_
  rintro e w1 ⟨rfl, q, hw⟩; rw [hw]
  clear hw w1; rw [← HA.out, ← HB.out, ← HF.out]; cases hf : f
  · have HE := Lib.hid (show rightB s.data.toList = false by rw [HR.out, hf]; rfl)
    go_wp2_with fail
    go_ret; exact ⟨ret_bool HE.out.symm, below_drew (Below.refl _ _)⟩
  · go_wp2_with fail
    refine (code_any ⟨a.toArray⟩ _).mono ?_
    rintro e w1 ⟨rfl, hw⟩; rw [hw]
    clear hw w1; rw [show (⟨a.toArray⟩ : ByteArray).data.toList = a from rfl]
    cases hc : Tt.code a
    · have HE := Lib.hid (show rightB s.data.toList = false by rw [HR.out, hf, hc]; rfl)
      clear hf hc; go_wp2_with fail
      go_ret; exact ⟨ret_bool HE.out.symm, below_drew (Below.refl _ _)⟩
    · have HE := Lib.hid (show rightB s.data.toList = Tt.numFrom b 1 by rw [HR.out, hf, hc]; rfl)
      clear hf hc; go_wp2_with fail
      obtain ⟨w2, hw2, hB2, _, _⟩ := redrew w q
      have hbe := hB2 w.heap.size
      rw [← hw2]; clear hw2 hB2; go_loopw [6] (fun iv wr => ∃ k : Nat, iv = .int .i64 k ∧ 1 ≤ k ∧ k ≤ 21 ∧ wr = w2 ∧ Hid (Tt.numFrom b 1 = Tt.numFrom b k)) (fun iv _ => 21 - (intOf iv).toNat)
      case atStart => exact ⟨1, rfl, by omega, by omega, rfl, rfl⟩
      case round =>
        obtain ⟨k, rfl, hk1, hk2, hw, HK⟩ := hrel; subst hw; by_cases hlt : k ≤ 20
        · have hki : (k : Int) ≤ 20 := by omega
          go_wp2_with fail
          refine (Tryz.strconv_Itoa_small k (by omega) _).mono ?_
          rintro e w1 ⟨rfl, hw⟩; rw [hw]
          clear hw w1; by_cases he : b = Lib.decDigits k
          · have ht : (b == Lib.decDigits k) = true := beq_iff_eq.2 he
            have HT := Lib.hid (HE.out.trans (HK.out.trans (Tt.numFrom_hit b k hlt he)))
            clear he; go_wp2_with fail
            go_ret; exact ⟨ret_bool HT.out.symm, hbe⟩
          · have ht : (b == Lib.decDigits k) = false := beq_eq_false_iff_ne.2 he
            have HT := Lib.hid (HK.out.trans (Tt.numFrom_step b k he))
            clear he; go_wp2_with fail
            go_roundw
            case rel => exact ⟨k + 1, by go_num, by omega, by omega, by first | rfl | trivial, HT.out⟩
            case measure => simp [intOf]; omega
        · have hki : ¬ (k : Int) ≤ 20 := by omega
          have HT := Lib.hid (show rightB s.data.toList = false from HE.out.trans (HK.out.trans (by rw [show k = 21 by omega]; exact Tt.numFrom_end b)))
          go_wp2_with fail
          go_ret; exact ⟨ret_bool HT.out.symm, hbe⟩

theorem one_byte (w : World) (c : UInt8) (z : Int) (hz : z = c.toNat) : (convert 76 9 (.slice (some ⟨w.heap.size, 0, none⟩) 1 1)).run Tryz.prog (w.alloc (.cells #[.int .u8 z] 5)) = .ok (.string ⟨#[c]⟩) (w.alloc (.cells #[.int .u8 z] 5)) := by
  subst hz; exact string_of_row (l := [c]) (World.ownsRow_lit w #[.int .u8 c.toNat] 1 (Nat.le_refl _) (by decide) rfl)
theorem ofNat_digit (k : Nat) : 48 + (k : Int) % 10 = ((UInt8.ofNat (48 + k % 10)).toNat : Int) := by
  have : k % 10 < 10 := Nat.mod_lt _ (by decide)
  rw [UInt8.toNat_ofNat_of_lt' (show 48 + k % 10 < UInt8.size by show 48 + k % 10 < 256; omega)]
  omega
theorem str_cons (c : UInt8) (l : List UInt8) : (⟨#[c]⟩ : ByteArray) ++ ⟨l.toArray⟩ = ⟨(c :: l).toArray⟩ := by apply ByteArray.ext; simp
theorem size_mk (l : List UInt8) : (⟨l.toArray⟩ : ByteArray).size = l.length := by rw [Lib.size_eq]

set_option maxHeartbeats 2000000 in
set_option maxRecDepth 100000 in
theorem decimal110 (n m : Int) (w : World) (h0 : 0 ≤ n) (h1 : n ≤ 4611686018427387904) (hm : m ≤ 1000) (hm0 : 0 ≤ m) :
    Calls Tryz.prog 110 #[.int .i64 n, .int .i64 m] w fun e w' => e = .returned (.string ⟨(Tt.decim n.toNat m.toNat []).toArray⟩) ∧ Below w.heap.size w w' := by
  go_enter Tryz.func110, Tryz.ntmps110
  go_wp2_with fail
  go_loopw [0, 1, 5] (fun nv mv sv wr => ∃ (k : Nat) (j : Int) (acc : List UInt8), nv = .int .i64 k ∧ mv = .int .i64 j ∧ sv = .string ⟨acc.toArray⟩ ∧ m ≤ j + acc.length ∧ j ≤ 1000 ∧ (k : Int) ≤ 4611686018427387904 ∧ (acc.length : Int) + k + j.toNat ≤ n + m ∧ Below w.heap.size w wr ∧ Hid (Tt.decim n.toNat m.toNat [] = Tt.decim k j.toNat acc)) (fun nv mv _ _ => (intOf nv).toNat + (intOf mv).toNat)
  case atStart => exact ⟨n.toNat, m, [], by go_num, rfl, rfl, by omega, by omega, by omega, by simp; omega, Below.refl _ _, rfl⟩
  case round =>
    obtain ⟨k, j, acc, rfl, rfl, rfl, hj1, hj2, hk, hl, hbe, HD⟩ := hrel; by_cases hend : k = 0 ∧ j ≤ 0
    · obtain ⟨rfl, hj0⟩ := hend; have hj : ¬ 0 < j := by omega
      have HE := Lib.hid (show Tt.decim n.toNat m.toNat [] = acc from HD.out.trans (by rw [show j.toNat = 0 by omega]; exact Tt.decim_end acc))
      go_wp2_with fail
      go_ret; exact ⟨ret_str HE.out.symm, hbe⟩
    · obtain ⟨c, hc⟩ : ∃ c, c = UInt8.ofNat (48 + k % 10) := ⟨_, rfl⟩
      have HE := Lib.hid (HD.out.trans (Tt.decim_step k j.toNat acc (by omega)))
      have hcz := ofNat_digit k; rw [← hc] at HE hcz
      have HZ := Lib.hid hcz; clear hc hcz; have hacc := size_mk acc; by_cases hk0 : k = 0
      · subst hk0; have hj : 0 < j := by omega
        have hcv := one_byte wr c 48 HZ.out
        clear hend; go_wp2_with fail
        go_roundw
        case rel => exact ⟨0, j - 1, c :: acc, rfl, rfl, by rw [str_cons], by simp; omega, by omega, by omega, by simp; omega, hbe.alloc (by have := hbe.size; omega) _, HE.out.trans (by rw [show (j - 1).toNat = j.toNat - 1 by omega])⟩
        case measure => simp [intOf]; omega
      · have hk1 : (0 : Int) < k := by omega
        have hcv := one_byte wr c _ HZ.out
        clear hend; go_wp2_with fail
        go_roundw
        case rel => exact ⟨k / 10, j - 1, c :: acc, by go_num, rfl, by rw [str_cons], by simp; omega, by omega, by omega, by simp; omega, hbe.alloc (by have := hbe.size; omega) _, HE.out.trans (by rw [show (j - 1).toNat = j.toNat - 1 by omega])⟩
        case measure => simp [intOf]; omega
end Go.Proofs.YtageielcdebjlaaGreatDoor

-- UidW2
namespace Tt
/-- A byte of a label. -/
def labC (c : UInt8) : Bool := c == 10 || (decide (32 ≤ c.toNat) && decide (c.toNat ≤ 126))
def labB (l : List UInt8) : Bool := l.all labC && decide (l.length ≤ 64)
theorem all_step (p : UInt8 → Bool) (l : List UInt8) (k : Nat) (c : UInt8) (h : l[k]? = some c) : (l.drop k).all p = (p c && (l.drop (k + 1)).all p) := by
  obtain ⟨g1, g2⟩ := List.getElem?_eq_some_iff.1 h
  rw [List.drop_eq_getElem_cons g1, g2, List.all_cons]
theorem all_end (p : UInt8 → Bool) (l : List UInt8) (k : Nat) (h : l.length ≤ k) : (l.drop k).all p = true := by rw [List.drop_eq_nil_of_le h]; rfl

theorem sign_alnum (c : UInt8) (h : sign c = true) : alnum c = false := by
  unfold sign at h
  rw [Bool.or_eq_true, beq_iff_eq, beq_iff_eq] at h
  rcases h with rfl | rfl <;> rfl
theorem code_ref (c : UInt8) (r : List UInt8) : code (c :: r) = (decide ((c :: r).length ≤ 16) && !sign c && codeTail (c :: r)) := by
  show (decide ((c :: r).length ≤ 16) && alnum c && codeTail r) = _
  unfold codeTail
  rw [List.all_cons]
  cases hs : sign c
  · cases alnum c <;> simp
  · rw [sign_alnum c hs]; simp
end Tt
namespace Go.Proofs.YtageielcdebjlaaGreatDoor
open Go.RowKit

set_option maxHeartbeats 400000 in
theorem digit168 (n : Int) (c : UInt8) (hn : n = c.toNat) (w : World) : Calls Tryz.prog 168 #[.int .u8 n] w fun e w' => e = .returned (.bool (digitB c)) ∧ w' = w := by
  have HD := Lib.hid (show digitB c = (decide ((48 : Int) ≤ n) && decide (n ≤ (57 : Int))) by
    have h1 := u8_le c 48 (by omega)
    have h2 := u8_ge c 57 (by omega)
    rw [hn, show (48 : Int) = ((48 : Nat) : Int) from rfl, show (57 : Int) = ((57 : Nat) : Int) from rfl, h1, h2]; rfl)
  clear hn; go_enter Tryz.func168, Tryz.ntmps168
  go_wp2_with fail
  all_goals
    go_ret; exact ⟨ret_bool (by rw [HD.out]; simp; omega), rfl⟩

set_option maxHeartbeats 400000 in
theorem letter169 (n : Int) (c : UInt8) (hn : n = c.toNat) (w : World) : Calls Tryz.prog 169 #[.int .u8 n] w fun e w' => e = .returned (.bool (letterB c)) ∧ w' = w := by
  have HD := Lib.hid (show letterB c = ((decide ((65 : Int) ≤ n) && decide (n ≤ (90 : Int))) || (decide ((97 : Int) ≤ n) && decide (n ≤ (122 : Int)))) by
    have h1 := u8_le c 65 (by omega)
    have h2 := u8_ge c 90 (by omega)
    have h3 := u8_le c 97 (by omega)
    have h4 := u8_ge c 122 (by omega)
    rw [hn, show (65 : Int) = ((65 : Nat) : Int) from rfl, show (90 : Int) = ((90 : Nat) : Int) from rfl, show (97 : Int) = ((97 : Nat) : Int) from rfl, show (122 : Int) = ((122 : Nat) : Int) from rfl, h1, h2, h3, h4]; rfl)
  clear hn; go_enter Tryz.func169, Tryz.ntmps169
  go_wp2_with fail
  all_goals
    go_ret; exact ⟨ret_bool (by rw [HD.out, Bool.eq_iff_iff]; first | (simp; omega) | (simp only [Bool.or_eq_true, Bool.and_eq_true, decide_eq_true_iff]; omega)), rfl⟩

theorem code_long (l : List UInt8) (h : ¬ (1 ≤ l.length ∧ l.length ≤ 16)) : Tt.code l = false := by
  cases l with
  | nil => rfl
  | cons c r =>
    show (decide ((c :: r).length ≤ 16) && Tt.alnum c && Tt.codeTail r) = false
    rw [decide_eq_false (by simp only [List.length_cons] at h ⊢; omega)]; rfl

set_option maxHeartbeats 4000000 in
set_option maxRecDepth 100000 in
theorem code97 (s : ByteArray) (w : World) : Calls Tryz.prog 97 #[.string s] w fun e w' => e = .returned (.bool (Tt.code s.data.toList)) ∧ w' = w := by
  have HL := Lib.hid (Lib.size_eq s)
  by_cases h1 : 1 ≤ s.size ∧ s.size ≤ 16
  · obtain ⟨h1, h2⟩ := h1; have q1 : decide ((s.size : Int) < 1) = false := decide_eq_false (by omega)
    have q2 : decide ((16 : Int) < (s.size : Int)) = false := decide_eq_false (by omega)
    have q3 : 0 < s.size := h1
    obtain ⟨c, hx⟩ : ∃ c : UInt8, s[0]'q3 = c := ⟨_, rfl⟩
    have hcl : s.data.toList[0]? = some c := by rw [← hx]; exact Lib.data_getElem? s 0 q3
    have HC := Lib.hid (show Tt.code s.data.toList = (!Tt.sign c && Tt.codeTail (s.data.toList.drop 0)) by
      have hl := HL.out; cases hh : s.data.toList with
      | nil => rw [hh] at hcl; cases hcl
      | cons c' r =>
        rw [hh] at hcl hl
        obtain rfl : c' = c := by simpa using hcl
        rw [Tt.code_ref, decide_eq_true (by rw [← hl]; exact h2)]; rfl)
    clear hcl; by_cases s1 : c = 95
    · have t1 := byte_eq c 95 95 rfl s1; have HE := Lib.hid (show Tt.code s.data.toList = false by rw [HC.out, s1]; rfl)
      clear s1; go_enter Tryz.func97, Tryz.ntmps97
      go_wp2_with fail
      go_ret; exact ⟨ret_bool HE.out.symm, rfl⟩
    · have t1 := byte_ne c 95 95 rfl s1; by_cases s2 : c = 45
      · have t2 := byte_eq c 45 45 rfl s2; have HE := Lib.hid (show Tt.code s.data.toList = false by rw [HC.out, s2]; rfl)
        clear s1 s2; go_enter Tryz.func97, Tryz.ntmps97
        go_wp2_with fail
        go_ret; exact ⟨ret_bool HE.out.symm, rfl⟩
      · have t2 := byte_ne c 45 45 rfl s2; have HE := Lib.hid (show Tt.code s.data.toList = (s.data.toList.drop 0).all (fun c => Tt.alnum c || Tt.sign c) by
          rw [HC.out, show Tt.sign c = false by unfold Tt.sign; rw [beq_eq_false_iff_ne.2 s1, beq_eq_false_iff_ne.2 s2]; rfl]; rfl)
        clear s1 s2; go_enter Tryz.func97, Tryz.ntmps97
        go_wp2_with fail
        clear t1 t2 hx; go_loop [3] (fun i => ∃ k : Nat, k ≤ s.size ∧ i = .int .i64 k ∧ Hid (Tt.code s.data.toList = (s.data.toList.drop k).all (fun c => Tt.alnum c || Tt.sign c))) (fun i => s.size - (intOf i).toNat)
        case atStart => exact ⟨0, Nat.zero_le _, rfl, HE.out⟩
        case round =>
          obtain ⟨k, hk, rfl, HK⟩ := hrel; by_cases hlt : k < s.size
          · obtain ⟨c, hx⟩ : ∃ c : UInt8, s[k]'hlt = c := ⟨_, rfl⟩
            have hcl := Lib.data_getElem? s k hlt
            rw [hx] at hcl
            have HS := Lib.hid (HK.out.trans (Tt.all_step _ _ _ _ hcl))
            have HA := Lib.hid (alnum_eq c)
            clear hcl; have hkinds : (digitB c = true ∧ Hid ((Tt.alnum c || Tt.sign c) = true)) ∨ (digitB c = false ∧ letterB c = true ∧ Hid ((Tt.alnum c || Tt.sign c) = true)) ∨
                (digitB c = false ∧ letterB c = false ∧ ((c.toNat : Int) != 95) = false ∧ Hid ((Tt.alnum c || Tt.sign c) = true)) ∨
                (digitB c = false ∧ letterB c = false ∧ ((c.toNat : Int) != 95) = true ∧ ((c.toNat : Int) != 45) = false ∧ Hid ((Tt.alnum c || Tt.sign c) = true)) ∨
                (digitB c = false ∧ letterB c = false ∧ ((c.toNat : Int) != 95) = true ∧ ((c.toNat : Int) != 45) = true ∧ Hid ((Tt.alnum c || Tt.sign c) = false)) := by
              cases e1 : digitB c
              · cases e2 : letterB c
                · by_cases e3 : c = 95
                  · exact .inr (.inr (.inl ⟨rfl, rfl, by simp [e3], by show _ = _; rw [e3]; rfl⟩))
                  · have b1 : ((c.toNat : Int) != 95) = true := by have := byte_ne c 95 95 rfl e3; simp only [bne, this]; rfl
                    by_cases e4 : c = 45
                    · exact .inr (.inr (.inr (.inl ⟨rfl, rfl, b1, by simp [e4], by show _ = _; rw [e4]; rfl⟩)))
                    · have b2 : ((c.toNat : Int) != 45) = true := by have := byte_ne c 45 45 rfl e4; simp only [bne, this]; rfl
                      refine .inr (.inr (.inr (.inr ⟨rfl, rfl, b1, b2, ?_⟩)))
                      show _ = _
                      rw [HA.out, e1, e2]
                      unfold Tt.sign
                      rw [beq_eq_false_iff_ne.2 e3, beq_eq_false_iff_ne.2 e4]; rfl
                · exact .inr (.inl ⟨rfl, rfl, by show _ = _; rw [HA.out, e1, e2]; rfl⟩)
              · exact .inl ⟨rfl, by show _ = _; rw [HA.out, e1]; rfl⟩
            clear HA; rcases hkinds with ⟨d1, DS⟩ | ⟨d1, d2, DS⟩ | ⟨d1, d2, d3, DS⟩ | ⟨d1, d2, d3, d4, DS⟩ | ⟨d1, d2, d3, d4, DS⟩
            all_goals
              go_wp2_with (first | (go_at_call 168; refine (digit168 _ c rfl _).mono ?_; rintro e w' ⟨rfl, rfl⟩) | (go_at_call 169; refine (letter169 _ c rfl _).mono ?_; rintro e w' ⟨rfl, rfl⟩))
              first
                | (go_ret
                   exact ⟨ret_bool (by rw [HS.out, DS.out]; rfl), rfl⟩)
                | (go_round
                   case rel => exact ⟨k + 1, by omega, by go_num, by show _ = _; rw [HS.out, DS.out]; rfl⟩
                   case measure => simp [intOf]; omega)
          · go_wp2_with fail
            go_ret; exact ⟨ret_bool (by rw [HK.out, Tt.all_end _ _ _ (by rw [← HL.out]; omega)]), rfl⟩
  · have HC := Lib.hid (code_long s.data.toList (by rw [← HL.out]; exact h1))
    by_cases e : 1 ≤ s.size
    · have q1 : decide ((s.size : Int) < 1) = false := decide_eq_false (by omega)
      have q2 : decide ((16 : Int) < (s.size : Int)) = true := decide_eq_true (by omega)
      clear h1; go_enter Tryz.func97, Tryz.ntmps97
      go_wp2_with fail
      go_ret; exact ⟨ret_bool (by rw [HC.out]), rfl⟩
    · have q1 : decide ((s.size : Int) < 1) = true := decide_eq_true (by omega)
      clear h1; go_enter Tryz.func97, Tryz.ntmps97
      go_wp2_with fail
      go_ret; exact ⟨ret_bool (by rw [HC.out]), rfl⟩
end Go.Proofs.YtageielcdebjlaaGreatDoor

-- UidW3
namespace Go.Proofs.YtageielcdebjlaaGreatDoor
open Go.RowKit

/-- What is known of a byte of a label, in the walk's own words. -/
theorem lab_kinds (c : UInt8) : (((c.toNat : Int) != 10) = false ∧ c.toNat = 10 ∧ Hid (Tt.labC c = true)) ∨
    (((c.toNat : Int) != 10) = true ∧ (c.toNat : Int) < 32 ∧ Hid (Tt.labC c = false)) ∨
    (((c.toNat : Int) != 10) = true ∧ ¬ (c.toNat : Int) < 32 ∧ (126 : Int) < c.toNat ∧ Hid (Tt.labC c = false)) ∨
    (((c.toNat : Int) != 10) = true ∧ ¬ (c.toNat : Int) < 32 ∧ ¬ (126 : Int) < c.toNat ∧ Hid (Tt.labC c = true)) := by
  by_cases e : c = 10
  · subst e; exact .inl ⟨rfl, rfl, by show _ = _; rfl⟩
  · have b1 : ((c.toNat : Int) != 10) = true := by have := byte_ne c 10 10 rfl e; simp only [bne, this]; rfl
    right
    by_cases h1 : (c.toNat : Int) < 32
    · refine .inl ⟨b1, h1, ?_⟩
      show _ = _
      unfold Tt.labC
      rw [beq_eq_false_iff_ne.2 e, decide_eq_false (by omega)]; rfl
    · by_cases h2 : (126 : Int) < c.toNat
      · refine .inr (.inl ⟨b1, h1, h2, ?_⟩)
        show _ = _
        unfold Tt.labC
        rw [beq_eq_false_iff_ne.2 e, decide_eq_false (show ¬ c.toNat ≤ 126 by omega)]; simp
      · refine .inr (.inr ⟨b1, h1, h2, ?_⟩)
        show _ = _
        unfold Tt.labC
        rw [decide_eq_true (by omega), decide_eq_true (by omega)]; simp

set_option maxHeartbeats 4000000 in
set_option maxRecDepth 100000 in
theorem label167 (s : ByteArray) (w : World) (hs : s.size ≤ 4611686018427387904) : Calls Tryz.prog 167 #[.string s] w fun e w' => e = .returned (.bool (Tt.labB s.data.toList)) ∧ Below w.heap.size w w' := by
  have HL := Lib.hid (Lib.size_eq s)
  have HB := Lib.hid (show Tt.labB s.data.toList = ((s.data.toList.drop 0).all Tt.labC && decide ((s.size : Int) ≤ 64)) by
    unfold Tt.labB; rw [← HL.out]; congr 1; rw [decide_eq_decide]; omega)
  obtain ⟨cap, W, hconv, hb0, hsz, hcell⟩ := bytes_of s w
  have HCELL := Lib.hid hcell; clear hcell; go_enter Tryz.func167, Tryz.ntmps167
  go_wp2_with fail
  clear hconv; go_loop [8] (fun i => ∃ k : Nat, k ≤ s.size ∧ i = .int .i64 k ∧ Hid ((s.data.toList.drop 0).all Tt.labC = (s.data.toList.drop k).all Tt.labC)) (fun i => s.size - (intOf i).toNat)
  case atStart => exact ⟨0, Nat.zero_le _, rfl, rfl⟩
  case round =>
    obtain ⟨k, hk, rfl, HK⟩ := hrel; by_cases hlt : k < s.size
    · obtain ⟨c, hcl⟩ : ∃ c, s.data.toList[k]? = some c := ⟨_, List.getElem?_eq_getElem (by rw [← HL.out]; exact hlt)⟩
      have hcc := HCELL.out k c hcl; have HS := Lib.hid (HK.out.trans (Tt.all_step _ _ _ _ hcl))
      clear hcl; have hki : (k : Int) < (s.size : Int) := by omega
      have hcb := UInt8.toNat_lt c; rcases lab_kinds c with ⟨d1, d2, DS⟩ | ⟨d1, d2, DS⟩ | ⟨d1, d2, d3, DS⟩ | ⟨d1, d2, d3, DS⟩
      all_goals
        go_wp2_with fail
        first
          | (go_ret
             exact ⟨ret_bool (by rw [HB.out, HS.out, DS.out]; rfl), hb0⟩)
          | (go_round
             case rel => exact ⟨k + 1, by omega, by go_num, by show _ = _; rw [HS.out, DS.out]; rfl⟩
             case measure => simp [intOf]; omega)
    · have hki : ¬ (k : Int) < (s.size : Int) := by omega
      go_wp2_with fail
      go_ret; exact ⟨ret_bool (by rw [HB.out, HK.out, Tt.all_end _ _ _ (by rw [← HL.out]; omega)]; rfl), hb0⟩
end Go.Proofs.YtageielcdebjlaaGreatDoor

-- Ev
namespace Go.Proofs.YtageielcdebjlaaGreatDoor

/-- An event: what api.Event holds. -/
structure Ev where
  uid : ByteArray
  seq : Int
  canc : Bool
  days : Tt.Ser
  start : Int
  mins : Int
  summ : ByteArray
  loc : ByteArray

/-- The error of an event behind its identifier. -/
def checkV (e : Ev) (v : Int) : Int :=
  if e.seq < 1 ∨ v < e.seq then 3
  else if Tt.serV e.days ≠ 0 then Tt.serV e.days
  else if Tt.serDays e.days = [] then 16
  else if e.start < 0 ∨ 1440 ≤ e.start ∨ e.mins < 1 ∨ 1440 < e.mins then 14
  else if e.summ.size = 0 ∨ Tt.labB e.summ.data.toList = false ∨ Tt.labB e.loc.data.toList = false then 4
  else 0

end Go.Proofs.YtageielcdebjlaaGreatDoor

-- UidW4
namespace Go.Proofs.YtageielcdebjlaaGreatDoor
open Go.RowKit

end Go.Proofs.YtageielcdebjlaaGreatDoor
