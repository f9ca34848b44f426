/- Plain facts on identifiers of events, and on decimal numbers. No program in sight. Condition: none. Identifiers of events: contracts of feed.right, timetableref40.right and decimal. Codes and labels: contracts of timetableref03.Valid and of both label functions; of timetableref40.right. Labels and identifiers: contracts of both label functions and of timetableref40.right. Plain facts on events and feeds: what is valid. No program in sight. Condition: none. timetableref40.right: its contract. Events in memory; feed.check and timetableref40.faultBehind: their contracts. -/
import Derived.Lib.ItoaNum
import Derived.Lib.IndexMore
import Derived.Lib.IndexLaws
import Derived.Lib.IndexBytes
import Derived.Test.YtageielcdebjlaaGreatDoorPk3
import Derived.Test.YtageielcdebjlaaGreatDoorPk2
import Derived.Test.YtageielcdebjlaaGreatDoorPk1
import Derived.Deep.RegionHeld3
import Derived.Test.YtageielcdebjlaaGreatDoorDaysAll
-- Uid
namespace Tt
open Go.Lib (decDigits cut index indexByte)

theorem decDigits_digit : ∀ (k n : Nat), n ≤ k → ∀ c ∈ decDigits n, 48 ≤ c.toNat ∧ c.toNat ≤ 57
  | 0, n, h, c, hc => by
    rw [Go.Lib.decDigits_one (by omega), List.mem_singleton] at hc
    subst hc; rw [show n = 0 by omega]; decide
  | k + 1, n, h, c, hc => by
    rw [decDigits.eq_def] at hc
    split at hc
    · rename_i h2
      rw [List.mem_singleton] at hc
      subst hc; rw [UInt8.toNat_ofNat_of_lt' (show 48 + n < UInt8.size by show 48 + n < 256; omega)]
      omega
    · rename_i h2
      rcases List.mem_append.1 hc with h3 | h3
      · exact decDigits_digit k (n / 10) (by omega) c h3
      · rw [List.mem_singleton] at h3
        subst h3; have : n % 10 < 10 := Nat.mod_lt _ (by decide)
        rw [UInt8.toNat_ofNat_of_lt' (show 48 + n % 10 < UInt8.size by show 48 + n % 10 < 256; omega)]
        omega

/-- Is a text the number of a week, from w on? -/
def numFrom (n : List UInt8) (w : Nat) : Bool := decide (∃ j : Nat, j < 21 ∧ w ≤ j ∧ n = decDigits j)
theorem numFrom_end (n : List UInt8) : numFrom n 21 = false := by
  unfold numFrom; rw [decide_eq_false_iff_not]; rintro ⟨j, h1, h2, _⟩; omega
theorem numFrom_hit (n : List UInt8) (w : Nat) (h1 : w ≤ 20) (h : n = decDigits w) : numFrom n w = true := by
  unfold numFrom; rw [decide_eq_true_iff]; exact ⟨w, by omega, Nat.le_refl _, h⟩
theorem numFrom_step (n : List UInt8) (w : Nat) (h : n ≠ decDigits w) : numFrom n w = numFrom n (w + 1) := by
  unfold numFrom
  congr 1
  apply propext
  constructor
  · rintro ⟨j, h1, h2, h3⟩; rcases Nat.lt_or_ge w j with h4 | h4
    · exact ⟨j, h1, h4, h3⟩
    · obtain rfl : w = j := by omega
      exact absurd h3 h
  · rintro ⟨j, h1, h2, h3⟩; exact ⟨j, h1, by omega, h3⟩
theorem numFrom_no (n : List UInt8) (w : Nat) (h : numFrom n w = true) : (64 : UInt8) ∉ n := by
  unfold numFrom at h
  rw [decide_eq_true_iff] at h
  obtain ⟨j, _, _, rfl⟩ := h; intro h64; have := decDigits_digit j j (Nat.le_refl _) _ h64
  have h2 : (64 : UInt8).toNat = 64 := rfl
  omega

theorem cut_first (a b : List UInt8) (h : (64 : UInt8) ∉ a) : cut (a ++ 64 :: b) [64] = (a, b, true) := by
  unfold Go.Lib.cut
  rw [Go.Lib.index_one]
  have hg : (a ++ 64 :: b)[a.length]? = some 64 := by simp
  by_cases h0 : 0 ≤ indexByte (a ++ 64 :: b) 64
  · obtain ⟨o, ho⟩ : ∃ o : Nat, indexByte (a ++ 64 :: b) 64 = o := ⟨(indexByte (a ++ 64 :: b) 64).toNat, by omega⟩
    obtain ⟨h1, h2⟩ := Go.Lib.indexByte_some ho
    have : o = a.length := by
      rcases Nat.lt_trichotomy o a.length with h3 | h3 | h3
      · rw [List.getElem?_append_left h3] at h1
        exact absurd (List.mem_of_getElem? h1) h
      · exact h3
      · exact absurd hg (h2 _ h3)
    rw [if_pos h0, ho, this]
    simp
  · exact absurd hg (Go.Lib.indexByte_none (by have := Go.Lib.indexByte_ge (a ++ 64 :: b) 64; omega) _)

/-- Is a text an identifier: a code, an at sign, a number? The code is asked by p. -/
def rightP (p : List UInt8 → Bool) (l : List UInt8) : Bool := (cut l [64]).2.2 && p (cut l [64]).1 && numFrom (cut l [64]).2.1 1

theorem first_split : ∀ (a : List UInt8), (64 : UInt8) ∈ a → ∃ a1 a2, a = a1 ++ 64 :: a2 ∧ (64 : UInt8) ∉ a1
  | [], h => by cases h
  | c :: t, h => by
    by_cases hc : c = 64
    · subst hc; exact ⟨[], t, rfl, by simp⟩
    · rcases List.mem_cons.1 h with e | e
      · exact absurd e.symm hc
      · obtain ⟨a1, a2, h1, h2⟩ := first_split t e
        exact ⟨c :: a1, a2, by rw [h1]; rfl, by simp [Ne.symm hc, h2]⟩

/-- The last at sign serves as well as the first one. -/
theorem rightP_last (p : List UInt8 → Bool) (hp : ∀ a, p a = true → (64 : UInt8) ∉ a) (a b : List UInt8) : rightP p (a ++ 64 :: b) = (p a && numFrom b 1) := by
  by_cases ha : (64 : UInt8) ∈ a
  · obtain ⟨a1, a2, rfl, h1⟩ := first_split a ha
    have h2 : p (a1 ++ 64 :: a2) = false := by
      cases h : p (a1 ++ 64 :: a2) with
      | false => rfl
      | true => exact absurd (by simp) (hp _ h)
    have h3 : numFrom (a2 ++ 64 :: b) 1 = false := by
      cases h : numFrom (a2 ++ 64 :: b) 1 with
      | false => rfl
      | true => exact absurd (by simp) (numFrom_no _ _ h)
    unfold rightP
    rw [List.append_assoc, List.cons_append, cut_first _ _ h1, h2]
    simp [h3]
  · unfold rightP
    rw [cut_first _ _ ha]
    simp
end Tt

-- UidW
namespace Go.Proofs.YtageielcdebjlaaGreatDoor
open Go.RowKit

theorem code_no_at (a : List UInt8) (h : Tt.code a = true) : (64 : UInt8) ∉ a := by
  intro hm; cases a with
  | nil => cases hm
  | cons c t =>
    unfold Tt.code at h
    simp only [Bool.and_eq_true] at h
    obtain ⟨⟨_, h1⟩, h2⟩ := h
    rcases List.mem_cons.1 hm with e | e
    · subst e; exact absurd h1 (by decide)
    · unfold Tt.codeTail at h2
      have := List.all_eq_true.1 h2 64 e
      exact absurd this (by decide)

def rightB (l : List UInt8) : Bool := Tt.rightP Tt.code l

theorem of_data {s : ByteArray} {l : List UInt8} (h : s.data.toList = l) : s = ⟨l.toArray⟩ := by rw [← h, Lib.mk_data]

set_option maxHeartbeats 1000000 in
theorem cut248 (s : ByteArray) (w : World) (hs : s.size ≤ 4611686018427387904) :
    Calls Tryz.prog 248 #[.string s, .string ⟨#[64]⟩] w fun e w' => e = .returned (.tuple #[.string ⟨(Lib.cut s.data.toList [64]).1.toArray⟩, .string ⟨(Lib.cut s.data.toList [64]).2.1.toArray⟩, .bool (Lib.cut s.data.toList [64]).2.2]) ∧ ∃ n, w' = w.drewN n := by
  have HI := Lib.hid (show Lib.index s.data.toList [64] = Lib.indexByte s.data.toList 64 from Lib.index_one _ _)
  have hge := Lib.indexByte_ge s.data.toList 64
  by_cases h0 : 0 ≤ Lib.indexByte s.data.toList 64
  · obtain ⟨o, ho⟩ : ∃ o : Nat, Lib.indexByte s.data.toList 64 = o := ⟨(Lib.indexByte s.data.toList 64).toNat, by omega⟩
    have hlt : o < s.size := by
      have := List.getElem?_eq_some_iff.1 (Lib.indexByte_some ho).1
      rw [Lib.size_eq]; exact this.1
    have HC := Lib.hid (show Lib.cut s.data.toList [64] = (s.data.toList.take o, s.data.toList.drop (o + 1), true) by
      unfold Lib.cut; rw [HI.out, if_pos h0, ho]; rfl)
    have HO := Lib.hid ho; have HE1 := Lib.hid (of_data (Lib.extract_from_zero s o))
    have HE2 := Lib.hid (of_data (Lib.extract_to_end s (o + 1)))
    clear h0 hge ho HI; go_enter Tryz.func248, Tryz.ntmps248
    go_wp2_with fail
    refine (Tryz.stringslite_Index_one s 64 _).mono ?_
    rintro e w1 ⟨rfl, hw⟩; rw [hw, HO.out]
    clear hw w1; have g1 : (0 : Int) ≤ (o : Int) := by omega
    have g2 : (o : Int) ≤ (s.size : Int) := by omega
    have g3 : IntKind.i64.wrap ((o : Int) + 1) = (o : Int) + 1 := by rw [IntKind.wrap_i64]; omega
    have g4 : ((o : Int) + 1).toNat = o + 1 := by omega
    have g5 : (o : Int) + 1 ≤ (s.size : Int) := by omega
    have g6 : (0 : Int) ≤ (o : Int) + 1 := by omega
    go_wp2_with fail
    go_quiet (fail)
    clear g1 g2 g3 g4 g5 g6; go_wp2_with fail
    refine bodyPost_ret (v := .tuple #[.string (s.extract 0 o), .string (s.extract (o + 1) s.size), .bool true]) (by simp [results, Tryz.results248, go_sem]) rfl ?_
    refine ⟨?_, _, rfl⟩
    rw [HC.out, HE1.out, HE2.out]
  · have HC := Lib.hid (show Lib.cut s.data.toList [64] = (s.data.toList, [], false) by
      unfold Lib.cut; rw [HI.out, if_neg h0])
    have HO := Lib.hid (show Lib.indexByte s.data.toList 64 = -1 by omega)
    clear h0 hge HI; go_enter Tryz.func248, Tryz.ntmps248
    go_wp2_with fail
    refine (Tryz.stringslite_Index_one s 64 _).mono ?_
    rintro e w1 ⟨rfl, hw⟩; rw [hw, HO.out]
    clear hw w1; go_wp2_with fail
    refine bodyPost_ret (v := .tuple #[.string s, .string ⟨#[]⟩, .bool false]) (by simp [results, Tryz.results248, go_sem]) rfl ?_
    refine ⟨?_, 0, rfl⟩
    rw [HC.out, Lib.mk_data]

set_option maxHeartbeats 1000000 in
theorem cut166 (s : ByteArray) (w : World) (hs : s.size ≤ 4611686018427387904) :
    Calls Tryz.prog 166 #[.string s, .string ⟨#[64]⟩] w fun e w' => e = .returned (.tuple #[.string ⟨(Lib.cut s.data.toList [64]).1.toArray⟩, .string ⟨(Lib.cut s.data.toList [64]).2.1.toArray⟩, .bool (Lib.cut s.data.toList [64]).2.2]) ∧ ∃ n, w' = w.drewN n := by
  go_enter Tryz.func166, Tryz.ntmps166
  go_wp2_with fail
  refine (cut248 s w hs).mono ?_
  rintro e w1 ⟨rfl, n, hw⟩; rw [hw]
  clear hw w1; go_wp2_with fail
  exact bodyPost_ret (v := .tuple #[.string ⟨(Lib.cut s.data.toList [64]).1.toArray⟩, .string ⟨(Lib.cut s.data.toList [64]).2.1.toArray⟩, .bool (Lib.cut s.data.toList [64]).2.2]) (by simp [results, Tryz.results166, go_sem]) rfl ⟨rfl, _, rfl⟩

set_option maxHeartbeats 2000000 in
set_option maxRecDepth 100000 in
theorem right95 (s : ByteArray) (w : World) (hs : s.size ≤ 4611686018427387904) :
    Calls Tryz.prog 95 #[.string s] w fun e w' => e = .returned (.bool (rightB s.data.toList)) ∧ Below w.heap.size w w' := by
  have HC := Lib.hid (cut166 s w hs)
  have HR := Lib.hid (show rightB s.data.toList = ((Lib.cut s.data.toList [64]).2.2 && Tt.code (Lib.cut s.data.toList [64]).1 && Tt.numFrom (Lib.cut s.data.toList [64]).2.1 1) from rfl)
  obtain ⟨a, ha⟩ : ∃ a, a = (Lib.cut s.data.toList [64]).1 := ⟨_, rfl⟩
  obtain ⟨b, hb⟩ : ∃ b, b = (Lib.cut s.data.toList [64]).2.1 := ⟨_, rfl⟩
  obtain ⟨f, hf⟩ : ∃ f, f = (Lib.cut s.data.toList [64]).2.2 := ⟨_, rfl⟩
  have HA := Lib.hid ha; have HB := Lib.hid hb; have HF := Lib.hid hf; rw [← ha, ← hb, ← hf] at HR
  clear ha hb hf; go_enter Tryz.func95, Tryz.ntmps95
  go_wp2_with fail
  refine HC.out.mono ?_
  rintro e w1 ⟨rfl, q, hw⟩; rw [hw]
  clear hw w1; rw [← HA.out, ← HB.out, ← HF.out]; cases hf : f
  · have HE := Lib.hid (show rightB s.data.toList = false by rw [HR.out, hf]; rfl)
    go_wp2_with fail
    go_ret; exact ⟨ret_bool HE.out.symm, below_drew (Below.refl _ _)⟩
  · go_wp2_with fail
    refine (code_any ⟨a.toArray⟩ _).mono ?_
    rintro e w1 ⟨rfl, hw⟩; rw [hw]
    clear hw w1; rw [show (⟨a.toArray⟩ : ByteArray).data.toList = a from rfl]
    cases hc : Tt.code a
    · have HE := Lib.hid (show rightB s.data.toList = false by rw [HR.out, hf, hc]; rfl)
      clear hf hc; go_wp2_with fail
      go_ret; exact ⟨ret_bool HE.out.symm, below_drew (Below.refl _ _)⟩
    · have HE := Lib.hid (show rightB s.data.toList = Tt.numFrom b 1 by rw [HR.out, hf, hc]; rfl)
      clear hf hc; go_wp2_with fail
      obtain ⟨w2, hw2, hB2, _, _⟩ := redrew w q
      have hbe := hB2 w.heap.size
      rw [← hw2]; clear hw2 hB2; go_loopw [6] (fun iv wr => ∃ k : Nat, iv = .int .i64 k ∧ 1 ≤ k ∧ k ≤ 21 ∧ wr = w2 ∧ Hid (Tt.numFrom b 1 = Tt.numFrom b k)) (fun iv _ => 21 - (intOf iv).toNat)
      case atStart => exact ⟨1, rfl, by omega, by omega, rfl, rfl⟩
      case round =>
        obtain ⟨k, rfl, hk1, hk2, hw, HK⟩ := hrel; subst hw; by_cases hlt : k ≤ 20
        · have hki : (k : Int) ≤ 20 := by omega
          go_wp2_with fail
          refine (Tryz.strconv_Itoa_small k (by omega) _).mono ?_
          rintro e w1 ⟨rfl, hw⟩; rw [hw]
          clear hw w1; by_cases he : b = Lib.decDigits k
          · have ht : (b == Lib.decDigits k) = true := beq_iff_eq.2 he
            have HT := Lib.hid (HE.out.trans (HK.out.trans (Tt.numFrom_hit b k hlt he)))
            clear he; go_wp2_with fail
            go_ret; exact ⟨ret_bool HT.out.symm, hbe⟩
          · have ht : (b == Lib.decDigits k) = false := beq_eq_false_iff_ne.2 he
            have HT := Lib.hid (HK.out.trans (Tt.numFrom_step b k he))
            clear he; go_wp2_with fail
            go_roundw
            case rel => exact ⟨k + 1, by go_num, by omega, by omega, by first | rfl | trivial, HT.out⟩
            case measure => simp [intOf]; omega
        · have hki : ¬ (k : Int) ≤ 20 := by omega
          have HT := Lib.hid (show rightB s.data.toList = false from HE.out.trans (HK.out.trans (by rw [show k = 21 by omega]; exact Tt.numFrom_end b)))
          go_wp2_with fail
          go_ret; exact ⟨ret_bool HT.out.symm, hbe⟩

end Go.Proofs.YtageielcdebjlaaGreatDoor

-- UidW2
namespace Tt
/-- A byte of a label. -/
def labC (c : UInt8) : Bool := c == 10 || (decide (32 ≤ c.toNat) && decide (c.toNat ≤ 126))
def labB (l : List UInt8) : Bool := l.all labC && decide (l.length ≤ 64)
theorem all_step (p : UInt8 → Bool) (l : List UInt8) (k : Nat) (c : UInt8) (h : l[k]? = some c) : (l.drop k).all p = (p c && (l.drop (k + 1)).all p) := by
  obtain ⟨g1, g2⟩ := List.getElem?_eq_some_iff.1 h
  rw [List.drop_eq_getElem_cons g1, g2, List.all_cons]
theorem all_end (p : UInt8 → Bool) (l : List UInt8) (k : Nat) (h : l.length ≤ k) : (l.drop k).all p = true := by rw [List.drop_eq_nil_of_le h]; rfl

end Tt
namespace Go.Proofs.YtageielcdebjlaaGreatDoor
open Go.RowKit

end Go.Proofs.YtageielcdebjlaaGreatDoor

-- UidW3
namespace Go.Proofs.YtageielcdebjlaaGreatDoor
open Go.RowKit

/-- What is known of a byte of a label, in the walk's own words. -/
theorem lab_kinds (c : UInt8) : (((c.toNat : Int) != 10) = false ∧ c.toNat = 10 ∧ Hid (Tt.labC c = true)) ∨
    (((c.toNat : Int) != 10) = true ∧ (c.toNat : Int) < 32 ∧ Hid (Tt.labC c = false)) ∨
    (((c.toNat : Int) != 10) = true ∧ ¬ (c.toNat : Int) < 32 ∧ (126 : Int) < c.toNat ∧ Hid (Tt.labC c = false)) ∨
    (((c.toNat : Int) != 10) = true ∧ ¬ (c.toNat : Int) < 32 ∧ ¬ (126 : Int) < c.toNat ∧ Hid (Tt.labC c = true)) := by
  by_cases e : c = 10
  · subst e; exact .inl ⟨rfl, rfl, by show _ = _; rfl⟩
  · have b1 : ((c.toNat : Int) != 10) = true := by have := byte_ne c 10 10 rfl e; simp only [bne, this]; rfl
    right
    by_cases h1 : (c.toNat : Int) < 32
    · refine .inl ⟨b1, h1, ?_⟩
      show _ = _
      unfold Tt.labC
      rw [beq_eq_false_iff_ne.2 e, decide_eq_false (by omega)]; rfl
    · by_cases h2 : (126 : Int) < c.toNat
      · refine .inr (.inl ⟨b1, h1, h2, ?_⟩)
        show _ = _
        unfold Tt.labC
        rw [beq_eq_false_iff_ne.2 e, decide_eq_false (show ¬ c.toNat ≤ 126 by omega)]; simp
      · refine .inr (.inr ⟨b1, h1, h2, ?_⟩)
        show _ = _
        unfold Tt.labC
        rw [decide_eq_true (by omega), decide_eq_true (by omega)]; simp

set_option maxHeartbeats 4000000 in
set_option maxRecDepth 100000 in
theorem label167 (s : ByteArray) (w : World) (hs : s.size ≤ 4611686018427387904) : Calls Tryz.prog 167 #[.string s] w fun e w' => e = .returned (.bool (Tt.labB s.data.toList)) ∧ Below w.heap.size w w' := by
  have HL := Lib.hid (Lib.size_eq s)
  have HB := Lib.hid (show Tt.labB s.data.toList = ((s.data.toList.drop 0).all Tt.labC && decide ((s.size : Int) ≤ 64)) by
    unfold Tt.labB; rw [← HL.out]; congr 1; rw [decide_eq_decide]; omega)
  obtain ⟨cap, W, hconv, hb0, hsz, hcell⟩ := bytes_of s w
  have HCELL := Lib.hid hcell; clear hcell; go_enter Tryz.func167, Tryz.ntmps167
  go_wp2_with fail
  clear hconv; go_loop [8] (fun i => ∃ k : Nat, k ≤ s.size ∧ i = .int .i64 k ∧ Hid ((s.data.toList.drop 0).all Tt.labC = (s.data.toList.drop k).all Tt.labC)) (fun i => s.size - (intOf i).toNat)
  case atStart => exact ⟨0, Nat.zero_le _, rfl, rfl⟩
  case round =>
    obtain ⟨k, hk, rfl, HK⟩ := hrel; by_cases hlt : k < s.size
    · obtain ⟨c, hcl⟩ : ∃ c, s.data.toList[k]? = some c := ⟨_, List.getElem?_eq_getElem (by rw [← HL.out]; exact hlt)⟩
      have hcc := HCELL.out k c hcl; have HS := Lib.hid (HK.out.trans (Tt.all_step _ _ _ _ hcl))
      clear hcl; have hki : (k : Int) < (s.size : Int) := by omega
      have hcb := UInt8.toNat_lt c; rcases lab_kinds c with ⟨d1, d2, DS⟩ | ⟨d1, d2, DS⟩ | ⟨d1, d2, d3, DS⟩ | ⟨d1, d2, d3, DS⟩
      all_goals
        go_wp2_with fail
        first
          | (go_ret
             exact ⟨ret_bool (by rw [HB.out, HS.out, DS.out]; rfl), hb0⟩)
          | (go_round
             case rel => exact ⟨k + 1, by omega, by go_num, by show _ = _; rw [HS.out, DS.out]; rfl⟩
             case measure => simp [intOf]; omega)
    · have hki : ¬ (k : Int) < (s.size : Int) := by omega
      go_wp2_with fail
      go_ret; exact ⟨ret_bool (by rw [HB.out, HK.out, Tt.all_end _ _ _ (by rw [← HL.out]; omega)]; rfl), hb0⟩
end Go.Proofs.YtageielcdebjlaaGreatDoor

-- Ev
namespace Go.Proofs.YtageielcdebjlaaGreatDoor

/-- An event: what api.Event holds. -/
structure Ev where
  uid : ByteArray
  seq : Int
  canc : Bool
  days : Tt.Ser
  start : Int
  mins : Int
  summ : ByteArray
  loc : ByteArray

/-- The error of an event behind its identifier. -/
def checkV (e : Ev) (v : Int) : Int :=
  if e.seq < 1 ∨ v < e.seq then 3
  else if Tt.serV e.days ≠ 0 then Tt.serV e.days
  else if Tt.serDays e.days = [] then 16
  else if e.start < 0 ∨ 1440 ≤ e.start ∨ e.mins < 1 ∨ 1440 < e.mins then 14
  else if e.summ.size = 0 ∨ Tt.labB e.summ.data.toList = false ∨ Tt.labB e.loc.data.toList = false then 4
  else 0

/-- Does an identifier not come behind the one before it? -/
def lateU : Option ByteArray → ByteArray → Bool
  | none, _ => false
  | some p, u => Op.bytesLess u.toList p.toList || u.toList == p.toList

/-- The error of the events of a feed, behind an identifier. -/
def evsV (v : Int) : Option ByteArray → List Ev → Int
  | _, [] => 0
  | p, e :: r => if rightB e.uid.data.toList = false then 4 else if lateU p e.uid = true then 63 else if checkV e v ≠ 0 then checkV e v else evsV v (some e.uid) r

/-- The error of a feed. -/
def feedV (n : ByteArray) (v : Int) (es : List Ev) : Int :=
  if Tt.code n.data.toList = false then 10
  else if v < 0 ∨ 64 < v then 3
  else if 256 < (es.length : Int) then 2
  else evsV v none es

def prevU (es : List Ev) (k : Nat) : Option ByteArray := if k = 0 then none else es[k - 1]?.map (·.uid)
theorem prevU_succ (es : List Ev) (k : Nat) (e : Ev) (h : es[k]? = some e) : prevU es (k + 1) = some e.uid := by unfold prevU; simp [h]
def evsF (v : Int) (es : List Ev) (k : Nat) : Int := evsV v (prevU es k) (es.drop k)
theorem evsF_cons (v : Int) (es : List Ev) (k : Nat) (e : Ev) (h : es[k]? = some e) :
    evsF v es k = if rightB e.uid.data.toList = false then 4 else if lateU (prevU es k) e.uid = true then 63 else if checkV e v ≠ 0 then checkV e v else evsF v es (k + 1) := by
  obtain ⟨g1, g2⟩ := List.getElem?_eq_some_iff.1 h
  unfold evsF
  rw [List.drop_eq_getElem_cons g1, g2, evsV, prevU_succ es k e h]
theorem evsF_end (v : Int) (es : List Ev) (k : Nat) (h : es.length ≤ k) : evsF v es k = 0 := by
  unfold evsF; rw [List.drop_eq_nil_of_le h]; unfold evsV; rfl
end Go.Proofs.YtageielcdebjlaaGreatDoor

-- UidW4
namespace Go.Proofs.YtageielcdebjlaaGreatDoor
open Go.RowKit

end Go.Proofs.YtageielcdebjlaaGreatDoor
namespace Go.Proofs.YtageielcdebjlaaGreatDoor
open Go.RowKit

def evCells (e : Ev) (v v' : Value) : Array Value := #[.string e.uid, .int .i64 e.seq, .bool e.canc, .int .i64 e.days.first, .int .i64 e.days.last, .int .i64 e.days.every, .int .i64 e.days.wd, v, v', .int .i64 e.start, .int .i64 e.mins, .string e.summ, .string e.loc]
def evVal (e : Ev) (v v' : Value) : Value := .agg (evCells e v v')

/-- An event in a block of its own. -/
def EvBox (b : Nat) (e : Ev) (v v' : Value) (w : World) : Prop := w.heap[b]? = some (.cells (evCells e v v') 82 (0, 0))
theorem EvBox.lt {b : Nat} {e : Ev} {v v' : Value} {w : World} (h : EvBox b e v v' w) : b < w.heap.size := (Array.getElem?_eq_some_iff.1 h).1
theorem EvBox.block {b : Nat} {e : Ev} {v v' : Value} {w w' : World} (h : EvBox b e v v' w) (hw : w'.heap[b]? = w.heap[b]?) : EvBox b e v v' w' := hw.trans h
/-- The cells of an event from place p of block b on. -/
structure EvC (b p : Nat) (e : Ev) (v v' : Value) (w : World) : Prop where
  c0 : w.cell? ⟨b, p, none⟩ = some (.string e.uid)
  c1 : w.cell? ⟨b, p + 1, none⟩ = some (.int .i64 e.seq)
  c2 : w.cell? ⟨b, p + 2, none⟩ = some (.bool e.canc)
  c3 : w.cell? ⟨b, p + 3, none⟩ = some (.int .i64 e.days.first)
  c4 : w.cell? ⟨b, p + 4, none⟩ = some (.int .i64 e.days.last)
  c5 : w.cell? ⟨b, p + 5, none⟩ = some (.int .i64 e.days.every)
  c6 : w.cell? ⟨b, p + 6, none⟩ = some (.int .i64 e.days.wd)
  c7 : w.cell? ⟨b, p + 7, none⟩ = some v
  c8 : w.cell? ⟨b, p + 8, none⟩ = some v'
  c9 : w.cell? ⟨b, p + 9, none⟩ = some (.int .i64 e.start)
  c10 : w.cell? ⟨b, p + 10, none⟩ = some (.int .i64 e.mins)
  c11 : w.cell? ⟨b, p + 11, none⟩ = some (.string e.summ)
  c12 : w.cell? ⟨b, p + 12, none⟩ = some (.string e.loc)
theorem EvBox.c {b : Nat} {e : Ev} {v v' : Value} {w : World} (h : EvBox b e v v' w) : EvC b 0 e v v' w := by
  constructor <;> (rw [Lib.cell_of_heap h]; rfl)

theorem ownsRow_len {w : World} {B : Nat} {e : TypeId} {k : Nat} {v : Value} {n : Nat} {xs : List Value} (h : w.ownsRow B e k v n xs) : ∃ p c, v = .slice p n c := by
  rcases h.2 with ⟨rfl, h0⟩ | ⟨g, cap, cur, rfl, _⟩
  · subst h0; exact ⟨_, _, rfl⟩
  · exact ⟨_, _, rfl⟩

theorem checkV_range (e : Ev) (v : Int) (h : e.seq < 1 ∨ v < e.seq) : checkV e v = 3 := by unfold checkV; rw [if_pos h]
theorem checkV_ser (e : Ev) (v : Int) (h : ¬ (e.seq < 1 ∨ v < e.seq)) (h2 : Tt.serV e.days ≠ 0) : checkV e v = Tt.serV e.days := by unfold checkV; rw [if_neg h, if_pos h2]
theorem checkV_empty (e : Ev) (v : Int) (h : ¬ (e.seq < 1 ∨ v < e.seq)) (h2 : Tt.serV e.days = 0) (h3 : Tt.serDays e.days = []) : checkV e v = 16 := by unfold checkV; rw [if_neg h, if_neg (by simp [h2]), if_pos h3]
theorem checkV_time (e : Ev) (v : Int) (h : ¬ (e.seq < 1 ∨ v < e.seq)) (h2 : Tt.serV e.days = 0) (h3 : Tt.serDays e.days ≠ []) :
    checkV e v = if e.start < 0 ∨ 1440 ≤ e.start ∨ e.mins < 1 ∨ 1440 < e.mins then 14
      else if e.summ.size = 0 ∨ Tt.labB e.summ.data.toList = false ∨ Tt.labB e.loc.data.toList = false then 4 else 0 := by unfold checkV; rw [if_neg h, if_neg (by simp [h2]), if_neg h3]

theorem nonempty_list (x : ByteArray) (h : x.size ≠ 0) : x.toList.isEmpty = false := by
  rw [Lib.toList_data]
  cases hx : x.data.toList with
  | nil => exact absurd (by rw [Lib.size_eq, hx]; rfl) h
  | cons c t => rfl
theorem empty_list (x : ByteArray) (h : x.size = 0) : x.toList = [] := by
  rw [Lib.toList_data]
  exact List.eq_nil_of_length_eq_zero (by rw [← Lib.size_eq]; exact h)

set_option maxHeartbeats 8000000 in
set_option maxRecDepth 100000 in
theorem check96 (e : Ev) (v : Int) (B : Nat) (w : World) (ao ao' : Option Addr) (c c' : Nat) (hB : B ≤ w.heap.size) (hI : Ints B w ao e.days.ex) (hI' : Ints B w ao' e.days.xt) (hn : e.days.ex.length ≤ 4611686018427387903) (hn2 : e.days.xt.length ≤ 4611686018427387903) (hs : e.summ.size ≤ 4611686018427387904) (hl : e.loc.size ≤ 4611686018427387904) :
    Calls Tryz.prog 96 #[evVal e (.slice ao e.days.ex.length c) (.slice ao' e.days.xt.length c'), .int .i64 v] w fun x w' => x = .returned (.int .i64 (checkV e v)) ∧ Below w.heap.size w w' := by
  have HI := Lib.hid hI; have HI' := Lib.hid hI'; have S0 : EvBox w.heap.size e (.slice ao e.days.ex.length c) (.slice ao' e.days.xt.length c') (w.alloc (.cells (evCells e (.slice ao e.days.ex.length c) (.slice ao' e.days.xt.length c')) 82)) := heap_alloc_new w _
  have HS0 := Lib.hid S0; clear hI hI' S0; unfold evCells at HS0
  unfold evVal evCells
  by_cases h1 : e.seq < 1 ∨ v < e.seq
  · have HE := Lib.hid (checkV_range e v h1)
    rcases h1 with h1 | h1
    · go_enter Tryz.func96, Tryz.ntmps96
      go_wp2_with fail
      go_ret; exact ⟨ret_int HE.out.symm, below_box _ _⟩
    · by_cases h2 : e.seq < 1
      all_goals
        go_enter Tryz.func96, Tryz.ntmps96
        go_wp2_with fail
        go_ret; exact ⟨ret_int HE.out.symm, below_box _ _⟩
  · have k1 : 1 ≤ e.seq := by omega
    have k2 : e.seq ≤ v := by omega
    have H1 := Lib.hid h1; clear h1; go_enter Tryz.func96, Tryz.ntmps96
    go_wp2_with fail
    refine (valid145_any e.days B _ hn hn2 ao ao' c c' (by simp; omega) (HI.out.below ((below_box w _).mono hB)) (HI'.out.below ((below_box w _).mono hB))).mono ?_
    rintro x w1 ⟨rfl, hb1⟩; have hbe1 := below_then (below_box w _) hb1
    have HA1 := Lib.hid (EvBox.block (e := e) HS0.out (hb1.block _ (by simp)))
    clear hb1; by_cases hv : Tt.serV e.days = 0
    · rw [hv]
      have HC1 := HA1.out.c; obtain ⟨c0, c1, c2, c3, c4, c5, c6, c7, c8, c9, c10, c11, c12⟩ := HC1; have HV := Lib.hid hv; clear hv; go_wp2_with fail
      refine (days74 e.days B _ hn hn2 ao ao' c c' (Nat.le_trans hB hbe1.size) (HI.out.below (hbe1.mono hB)) (HI'.out.below (hbe1.mono hB))).mono ?_
      rintro x w2 ⟨u, rfl, hown, hb2⟩; obtain ⟨q1, q2, hu⟩ := ownsRow_len hown
      subst hu; have hbe2 := below_then hbe1 hb2; have HA2 := Lib.hid (HA1.out.block (hb2.block _ HA1.out.lt))
      clear hb2 hown c0 c1 c2 c3 c4 c5 c6 c7 c8 c9 c10 c11 c12 HA1 hbe1; obtain ⟨c0, c1, c2, c3, c4, c5, c6, c7, c8, c9, c10, c11, c12⟩ := HA2.out.c
      by_cases hd : Tt.serDays e.days = []
      · have HE := Lib.hid (checkV_empty e v H1.out HV.out hd)
        have hlen : (Tt.serDays e.days).length = 0 := by rw [hd]; rfl
        rw [hlen]
        clear hd hlen; go_wp2_with fail
        go_ret; exact ⟨ret_int HE.out.symm, hbe2⟩
      · have HE := Lib.hid (checkV_time e v H1.out HV.out hd)
        obtain ⟨n, hlen⟩ : ∃ n, (Tt.serDays e.days).length = n + 1 := ⟨(Tt.serDays e.days).length - 1, by have := List.length_pos_iff.2 hd; omega⟩
        rw [hlen]
        clear hd hlen; by_cases ht : e.start < 0 ∨ 1440 ≤ e.start ∨ e.mins < 1 ∨ 1440 < e.mins
        · have HE2 := Lib.hid (HE.out.trans (if_pos ht))
          clear HE; go_wp2_with fail
          all_goals first
            | (go_ret; exact ⟨ret_int HE2.out.symm, hbe2⟩)
            | (exfalso; omega)
        · have HE2 := Lib.hid (HE.out.trans (if_neg ht))
          have t1 : ¬ e.start < 0 := by omega
          have t2 : ¬ 1440 ≤ e.start := by omega
          have t3 : ¬ e.mins < 1 := by omega
          have t4 : ¬ 1440 < e.mins := by omega
          clear HE ht; by_cases hz : e.summ.size = 0
          · have HE3 := Lib.hid (HE2.out.trans (if_pos (.inl hz)))
            have hz1 := empty_list _ hz; have hz2 : (!e.summ.toList.isEmpty) = false := by rw [hz1]; rfl
            clear hz; go_wp2_with fail
            go_ret; exact ⟨ret_int HE3.out.symm, hbe2⟩
          · have hz1 := nonempty_list _ hz; have HZ := Lib.hid hz
            clear hz; go_wp2_with fail
            refine (label167 e.summ _ hs).mono ?_
            rintro x w3 ⟨rfl, hw3⟩; have hbe3 := below_then hbe2 hw3; have HA3 := Lib.hid (HA2.out.block (hw3.block _ HA2.out.lt))
            clear c0 c1 c2 c3 c4 c5 c6 c7 c8 c9 c10 c11 c12 HA2 hbe2 hw3; obtain ⟨c0, c1, c2, c3, c4, c5, c6, c7, c8, c9, c10, c11, c12⟩ := HA3.out.c
            cases hl1 : Tt.labB e.summ.data.toList
            · have HE3 := Lib.hid (HE2.out.trans (if_pos (.inr (.inl hl1))))
              clear hl1; go_wp2_with fail
              go_ret; exact ⟨ret_int HE3.out.symm, hbe3⟩
            · have HL1 := Lib.hid hl1; clear hl1
              go_wp2_with fail
              refine (label167 e.loc _ hl).mono ?_
              rintro x w4 ⟨rfl, hw4⟩; have hbe4 := below_then hbe3 hw4; cases hl2 : Tt.labB e.loc.data.toList
              · have HE3 := Lib.hid (HE2.out.trans (if_pos (.inr (.inr hl2))))
                clear hl2; go_wp2_with fail
                go_ret; exact ⟨ret_int HE3.out.symm, hbe4⟩
              · have HE3 := Lib.hid (HE2.out.trans (if_neg (by rw [hl2, HL1.out]; simp [HZ.out])))
                clear hl2; go_wp2_with fail
                go_ret; exact ⟨ret_int HE3.out.symm, hbe4⟩
    · have HE := Lib.hid (checkV_ser e v H1.out hv)
      have hv2 : (Tt.serV e.days != 0) = true := by simp [hv]
      clear hv; go_wp2_with fail
      go_ret; exact ⟨ret_int HE.out.symm, hbe1⟩

end Go.Proofs.YtageielcdebjlaaGreatDoor
