/- Terms: calendar.Valid, At, Days, and the reference's. Regions that only make blocks; an event's block filled anew. No function of the program in sight. Condition: none. -/
import Derived.Test.YtageielcdebjlaaGreatDoorGridW
import Derived.BigQuiet
import Derived.Test.YtageielcdebjlaaGreatDoorPk11
namespace Tt
structure Trm where
  first : Int
  weeks : Int
  hols : List Int
def lastT (t : Trm) : Int := t.first + 7 * t.weeks - 1
def wkdV (n : Int) : Int := if isD n = true then wk n else -1
/-- The error of a term's holidays. -/
def holV (a b : Int) : Option Int → List Int → Int
  | _, [] => 0
  | p, h :: r => if h < a ∨ b < h then 13 else if p.any (fun q => decide (h ≤ q)) = true then 11 else holV a b (some h) r
def prevI (l : List Int) (k : Nat) : Option Int := if k = 0 then none else l[k - 1]?
theorem prevI_succ (l : List Int) (k : Nat) (d : Int) (h : l[k]? = some d) : prevI l (k + 1) = some d := by unfold prevI; simp [h]
def holF (a b : Int) (l : List Int) (k : Nat) : Int := holV a b (prevI l k) (l.drop k)
theorem holF_end (a b : Int) (l : List Int) (k : Nat) (h : l.length ≤ k) : holF a b l k = 0 := by unfold holF; rw [List.drop_eq_nil_of_le h]; rfl
theorem holF_step (a b : Int) (l : List Int) (k : Nat) (d : Int) (h : l[k]? = some d) : holF a b l k = if d < a ∨ b < d then 13 else if (prevI l k).any (fun q => decide (d ≤ q)) = true then 11 else holF a b l (k + 1) := by
  unfold holF
  obtain ⟨g1, g2⟩ := List.getElem?_eq_some_iff.1 h
  rw [List.drop_eq_getElem_cons g1, g2, holV, prevI_succ l k d h]
/-- The error of a term. -/
def trmV (t : Trm) : Int := if wkdV t.first ≠ 0 then 13 else if t.weeks < 1 ∨ 20 < t.weeks then 3 else if isD (lastT t) = false then 13 else if 64 < (t.hols.length : Int) then 2 else holF t.first (lastT t) t.hols 0
theorem trmV_ok {t : Trm} (h : trmV t = 0) : 0 ≤ t.first ∧ t.first ≤ 36524 ∧ 1 ≤ t.weeks ∧ t.weeks ≤ 20 ∧ lastT t ≤ 36524 ∧ wk t.first = 0 := by
  unfold trmV at h
  split at h
  · cases h
  · split at h
    · cases h
    · split at h
      · cases h
      · rename_i h1 h2 h3
        have h4 : isD t.first = true := by
          cases hd : isD t.first with
          | true => rfl
          | false => exact absurd (by unfold wkdV; rw [if_neg (by rw [hd]; decide)]; decide) h1
        have h5 : wk t.first = 0 := by
          have h6 : ¬ wkdV t.first ≠ 0 := h1
          unfold wkdV at h6
          rw [if_pos h4] at h6
          omega
        have h7 : isD (lastT t) = true := by simpa using h3
        have h8 := (isD_iff _).1 h4
        have h9 := (isD_iff _).1 h7
        exact ⟨h8.1, h8.2, by omega, by omega, h9.2, h5⟩
/-- The day with a weekday in a week of a term. -/
def atD (t : Trm) (k d : Int) : Int := t.first + 7 * (k - 1) + d
def atB (t : Trm) (k d : Int) : Bool := decide (trmV t = 0 ∧ 1 ≤ k ∧ k ≤ t.weeks ∧ 0 ≤ d ∧ d < 7) && !decide (atD t k d ∈ t.hols)
/-- The days of a time in the first k weeks of a term. -/
def daysK (t : Trm) (x : Tim) : Nat → List Int
  | 0 => []
  | k + 1 => if bit x.weeks k = true ∧ atB t ((k : Int) + 1) x.day = true then daysK t x k ++ [atD t ((k : Int) + 1) x.day] else daysK t x k
theorem daysK_len (t : Trm) (x : Tim) : ∀ k, (daysK t x k).length ≤ k
  | 0 => Nat.le_refl _
  | k + 1 => by
    have ih := daysK_len t x k; rw [daysK]
    split
    · rw [List.length_append]; simp; omega
    · omega
end Tt
namespace Go.Proofs.YtageielcdebjlaaGreatDoor
open Go.RowKit

def trmVal (t : Tt.Trm) (v : Value) : Value := .agg #[.int .i64 t.first, .int .i64 t.weeks, v]
theorem wkd191_any (n : Int) (w : World) : Calls Tryz.prog 191 #[.int .i64 n] w fun e w' => e = .returned (.int .i64 (Tt.wkdV n)) ∧ w' = w := by
  unfold Tt.wkdV
  cases h : Tt.isD n with
  | true => rw [if_pos rfl]; exact wkd191 n w h
  | false => rw [if_neg (by decide)]; exact wkd191_not n w h
theorem wkd209_any (n : Int) (w : World) : Calls Tryz.prog 209 #[.int .i64 n] w fun e w' => e = .returned (.int .i64 (Tt.wkdV n)) ∧ w' = w := by
  unfold Tt.wkdV
  cases h : Tt.isD n with
  | true => rw [if_pos rfl]; exact wkd209 n w h
  | false => rw [if_neg (by decide)]; exact wkd209_not n w h
set_option maxHeartbeats 4000000 in
set_option maxRecDepth 100000 in
theorem last193 (t : Tt.Trm) (p : Option Addr) (n c : Nat) (w : World) (h0 : 0 ≤ t.first) (h1 : t.first ≤ 36524) (h2 : 0 ≤ t.weeks) (h3 : t.weeks ≤ 20) : Calls Tryz.prog 193 #[trmVal t (.slice p n c)] w fun e w' => e = .returned (.int .i64 (Tt.lastT t)) ∧ Below w.heap.size w w' := by
  obtain ⟨f, k, l⟩ := t; have HB := Lib.hid (below_box w (.cells #[.int .i64 f, .int .i64 k, .slice p n c] 93))
  have h0 : 0 ≤ f := h0
  have h1 : f ≤ 36524 := h1
  have h2 : 0 ≤ k := h2
  have h3 : k ≤ 20 := h3
  unfold trmVal
  go_enter Tryz.func193, Tryz.ntmps193
  go_wp2_with fail
  go_ret; exact ⟨rfl, HB.out⟩
set_option maxHeartbeats 4000000 in
set_option maxRecDepth 100000 in
theorem free219 (t : Tt.Trm) (ao : Option Addr) (c : Nat) (B : Nat) (x : Int) (w : World) (hB : B ≤ w.heap.size) (hI : Ints B w ao t.hols) (hn : t.hols.length ≤ 4611686018427387903) : Calls Tryz.prog 219 #[trmVal t (.slice ao t.hols.length c), .int .i64 x] w fun e w' => e = .returned (.bool (!decide (x ∈ t.hols))) ∧ Below w.heap.size w w' := by
  obtain ⟨P, hP⟩ : ∃ P, P = w.heap.size := ⟨_, rfl⟩
  obtain ⟨W, hW⟩ : ∃ W, W = w.alloc (.cells #[.int .i64 t.first, .int .i64 t.weeks, .slice ao t.hols.length c] 93) := ⟨_, rfl⟩
  have HBW := Lib.hid (show Below w.heap.size w W from by rw [hW]; exact below_box w _)
  have HPW := Lib.hid (show Blk P #[.int .i64 t.first, .int .i64 t.weeks, .slice ao t.hols.length c] 93 W from by rw [hW, hP]; exact Blk.new w _ _)
  have HIW := Lib.hid (show Ints B W ao t.hols from hI.below (HBW.out.mono hB))
  have HBP := Lib.hid (show B ≤ P by omega)
  unfold trmVal
  clear hI; obtain ⟨xs, hxs⟩ : ∃ xs, xs = t.hols := ⟨_, rfl⟩
  rw [← hxs] at hn HIW HPW hW ⊢
  have c0 : W.cell? ⟨P, 0, none⟩ = some (.int .i64 t.first) := HPW.out.cell 0
  have c1 : W.cell? ⟨P, 1, none⟩ = some (.int .i64 t.weeks) := HPW.out.cell 1
  have c2 : W.cell? ⟨P, 2, none⟩ = some (.slice ao xs.length c) := HPW.out.cell 2
  clear hxs; go_enter Tryz.func219, Tryz.ntmps219
  go_upto_region 1 with (fail)
  rw [← hW, ← hP]; clear hW hP; go_wp2_with fail
  go_loop [10] (fun i => ∃ k : Nat, i = .int .i64 k ∧ k ≤ xs.length ∧ Hid (decide (x ∈ xs) = decide (x ∈ xs.drop k))) (fun i => xs.length - (intOf i).toNat)
  case atStart => exact ⟨0, rfl, Nat.zero_le _, rfl⟩
  case round =>
    obtain ⟨k, rfl, hk, HK⟩ := hrel; by_cases hlt : k < xs.length
    · obtain ⟨d, hd⟩ : ∃ d, xs[k]? = some d := ⟨_, List.getElem?_eq_getElem hlt⟩
      obtain ⟨b, o, ha, hb, hc0⟩ := HIW.out.form (by omega)
      subst ha; have hc := hc0 k d hd; have hki : (k : Int) < (xs.length : Int) := by omega
      have HD := Lib.hid (show decide (x ∈ xs.drop k) = (decide (x = d) || decide (x ∈ xs.drop (k + 1))) by
        obtain ⟨g1, g2⟩ := List.getElem?_eq_some_iff.1 hd
        rw [List.drop_eq_getElem_cons g1, g2]; simp)
      clear hd hc0; by_cases he : d = x
      · have ht : (d == x) = true := by simp [he]
        have HE := Lib.hid (show decide (x ∈ xs) = true by rw [HK.out, HD.out, he]; simp)
        clear he; go_wp2_with fail
        go_ret; exact ⟨ret_bool (by rw [HE.out] <;> rfl), HBW.out⟩
      · have ht : (d == x) = false := by simp [he]
        have HE := Lib.hid (show decide (x ∈ xs) = decide (x ∈ xs.drop (k + 1)) by rw [HK.out, HD.out, decide_eq_false (fun e => he e.symm)]; rfl)
        clear he; go_wp2_with fail
        go_round
        case rel => exact ⟨k + 1, by go_num, by omega, HE.out⟩
        case measure => simp [intOf]; omega
    · have hki : ¬ (k : Int) < (xs.length : Int) := by omega
      have HE := Lib.hid (show decide (x ∈ xs) = false by rw [HK.out, List.drop_eq_nil_of_le (by omega)]; simp)
      go_wp2_with fail
      go_ret; exact ⟨ret_bool (by rw [HE.out] <;> rfl), HBW.out⟩
set_option maxHeartbeats 4000000 in
set_option maxRecDepth 100000 in
theorem free282 (t : Tt.Trm) (ao : Option Addr) (c : Nat) (B : Nat) (x : Int) (w : World) (hB : B ≤ w.heap.size) (hI : Ints B w ao t.hols) (hn : t.hols.length ≤ 4611686018427387903) : Calls Tryz.prog 282 #[trmVal t (.slice ao t.hols.length c), .int .i64 x] w fun e w' => e = .returned (.bool (decide (x ∈ t.hols))) ∧ Below w.heap.size w w' := by
  obtain ⟨P, hP⟩ : ∃ P, P = w.heap.size := ⟨_, rfl⟩
  obtain ⟨W, hW⟩ : ∃ W, W = w.alloc (.cells #[.int .i64 t.first, .int .i64 t.weeks, .slice ao t.hols.length c] 93) := ⟨_, rfl⟩
  have HBW := Lib.hid (show Below w.heap.size w W from by rw [hW]; exact below_box w _)
  have HPW := Lib.hid (show Blk P #[.int .i64 t.first, .int .i64 t.weeks, .slice ao t.hols.length c] 93 W from by rw [hW, hP]; exact Blk.new w _ _)
  have HIW := Lib.hid (show Ints B W ao t.hols from hI.below (HBW.out.mono hB))
  have HBP := Lib.hid (show B ≤ P by omega)
  unfold trmVal
  clear hI; obtain ⟨xs, hxs⟩ : ∃ xs, xs = t.hols := ⟨_, rfl⟩
  rw [← hxs] at hn HIW HPW hW ⊢
  have c0 : W.cell? ⟨P, 0, none⟩ = some (.int .i64 t.first) := HPW.out.cell 0
  have c1 : W.cell? ⟨P, 1, none⟩ = some (.int .i64 t.weeks) := HPW.out.cell 1
  have c2 : W.cell? ⟨P, 2, none⟩ = some (.slice ao xs.length c) := HPW.out.cell 2
  clear hxs; go_enter Tryz.func282, Tryz.ntmps282
  go_upto_region 1 with (fail)
  rw [← hW, ← hP]; clear hW hP; go_wp2_with fail
  go_loop [5] (fun i => ∃ k : Nat, i = .int .i64 k ∧ k ≤ xs.length ∧ Hid (decide (x ∈ xs) = decide (x ∈ xs.drop k))) (fun i => xs.length - (intOf i).toNat)
  case atStart => exact ⟨0, rfl, Nat.zero_le _, rfl⟩
  case round =>
    obtain ⟨k, rfl, hk, HK⟩ := hrel; by_cases hlt : k < xs.length
    · obtain ⟨d, hd⟩ : ∃ d, xs[k]? = some d := ⟨_, List.getElem?_eq_getElem hlt⟩
      obtain ⟨b, o, ha, hb, hc0⟩ := HIW.out.form (by omega)
      subst ha; have hc := hc0 k d hd; have hki : (k : Int) < (xs.length : Int) := by omega
      have HD := Lib.hid (show decide (x ∈ xs.drop k) = (decide (x = d) || decide (x ∈ xs.drop (k + 1))) by
        obtain ⟨g1, g2⟩ := List.getElem?_eq_some_iff.1 hd
        rw [List.drop_eq_getElem_cons g1, g2]; simp)
      clear hd hc0; by_cases he : d = x
      · have ht : (d == x) = true := by simp [he]
        have HE := Lib.hid (show decide (x ∈ xs) = true by rw [HK.out, HD.out, he]; simp)
        clear he; go_wp2_with fail
        go_ret; exact ⟨ret_bool (by rw [HE.out] <;> rfl), HBW.out⟩
      · have ht : (d == x) = false := by simp [he]
        have HE := Lib.hid (show decide (x ∈ xs) = decide (x ∈ xs.drop (k + 1)) by rw [HK.out, HD.out, decide_eq_false (fun e => he e.symm)]; rfl)
        clear he; go_wp2_with fail
        go_round
        case rel => exact ⟨k + 1, by go_num, by omega, HE.out⟩
        case measure => simp [intOf]; omega
    · have hki : ¬ (k : Int) < (xs.length : Int) := by omega
      have HE := Lib.hid (show decide (x ∈ xs) = false by rw [HK.out, List.drop_eq_nil_of_le (by omega)]; simp)
      go_wp2_with fail
      go_ret; exact ⟨ret_bool (by rw [HE.out] <;> rfl), HBW.out⟩
set_option maxHeartbeats 4000000 in
set_option maxRecDepth 100000 in
theorem trm125 (t : Tt.Trm) (ao : Option Addr) (c : Nat) (B : Nat) (w : World) (hB : B ≤ w.heap.size) (hI : Ints B w ao t.hols) (hn : t.hols.length ≤ 4611686018427387903) : Calls Tryz.prog 125 #[trmVal t (.slice ao t.hols.length c)] w fun e w' => e = .returned (.int .i64 (Tt.trmV t)) ∧ Below w.heap.size w w' := by
  obtain ⟨E, hE⟩ : ∃ E, E = Tt.trmV t := ⟨_, rfl⟩
  rw [← hE]; have HE := Lib.hid (show E = (if Tt.wkdV t.first ≠ 0 then 13 else if t.weeks < 1 ∨ 20 < t.weeks then 3 else if Tt.isD (Tt.lastT t) = false then 13 else if 64 < (t.hols.length : Int) then 2 else Tt.holF t.first (Tt.lastT t) t.hols 0) from hE)
  clear hE; obtain ⟨P, hP⟩ : ∃ P, P = w.heap.size := ⟨_, rfl⟩
  obtain ⟨W, hW⟩ : ∃ W, W = w.alloc (.cells #[.int .i64 t.first, .int .i64 t.weeks, .slice ao t.hols.length c] 93) := ⟨_, rfl⟩
  have HBW := Lib.hid (show Below w.heap.size w W from by rw [hW]; exact below_box w _)
  have HPW := Lib.hid (show Blk P #[.int .i64 t.first, .int .i64 t.weeks, .slice ao t.hols.length c] 93 W from by rw [hW, hP]; exact Blk.new w _ _)
  have HIW := Lib.hid (show Ints B W ao t.hols from hI.below (HBW.out.mono hB))
  have HBP := Lib.hid (show B ≤ P by omega)
  unfold trmVal
  clear hI; have c0 : W.cell? ⟨P, 0, none⟩ = some (.int .i64 t.first) := HPW.out.cell 0
  have c1 : W.cell? ⟨P, 1, none⟩ = some (.int .i64 t.weeks) := HPW.out.cell 1
  have c2 : W.cell? ⟨P, 2, none⟩ = some (.slice ao t.hols.length c) := HPW.out.cell 2
  obtain ⟨D, hD⟩ : ∃ D, D = Tt.wkdV t.first := ⟨_, rfl⟩
  rw [← hD] at HE
  have HD := Lib.hid hD; clear hD; have HDF : Hid (D = 0 → 0 ≤ t.first ∧ t.first ≤ 36524) := Lib.hid (fun h => by
    rw [HD.out] at h
    unfold Tt.wkdV at h
    split at h
    · rename_i hd; exact (Tt.isD_iff _).1 hd
    · cases h)
  go_enter Tryz.func125, Tryz.ntmps125
  go_upto_region 1 with (fail)
  rw [← hW, ← hP]; clear hW hP; go_wp2_with fail
  refine (wkd191_any _ _).mono ?_
  rintro e w1 ⟨rfl, hx⟩; rw [hx, ← HD.out]
  clear hx w1; by_cases hD0 : D = 0
  rotate_left
  · have hb : (D != 0) = true := by simp [hD0]
    have HE1 := Lib.hid (show E = 13 from by rw [HE.out, if_pos hD0])
    clear hD0; go_wp2_with fail
    go_ret; exact ⟨ret_int HE1.out.symm, HBW.out⟩
  have hb : (D != 0) = false := by simp [hD0]
  obtain ⟨f0, f1⟩ := HDF.out hD0
  have HD0 := Lib.hid hD0; clear hD0; by_cases hw : t.weeks < 1 ∨ 20 < t.weeks
  · have HE1 := Lib.hid (show E = 3 from by rw [HE.out, if_neg (fun h => h HD0.out), if_pos hw])
    rcases hw with hw | hw
    · go_wp2_with fail
      all_goals first
        | (exfalso; omega)
        | (go_ret
           exact ⟨ret_int HE1.out.symm, HBW.out⟩)
    · go_wp2_with fail
      all_goals first
        | (exfalso; omega)
        | (go_ret
           exact ⟨ret_int HE1.out.symm, HBW.out⟩)
  have hw0 : 1 ≤ t.weeks := by omega
  have hw1 : t.weeks ≤ 20 := by omega
  have HW := Lib.hid hw; clear hw; obtain ⟨LT, hLT⟩ : ∃ L, L = Tt.lastT t := ⟨_, rfl⟩
  rw [← hLT] at HE
  have HLT := Lib.hid (show LT = t.first + 7 * t.weeks - 1 from hLT)
  have HLT2 := Lib.hid hLT; clear hLT; have HC : Hid (∀ X, Below W.heap.size W X → Calls Tryz.prog 193 #[.agg #[.int .i64 t.first, .int .i64 t.weeks, .slice ao t.hols.length c]] X fun e w' => e = .returned (.int .i64 LT) ∧ Below X.heap.size X w') := Lib.hid (fun X _ => by rw [HLT2.out]; exact last193 t _ _ _ X f0 f1 (by omega) hw1)
  go_wp2_with fail
  refine (HC.out _ (Below.refl _ _)).mono ?_
  rintro e w1 ⟨rfl, hb1⟩; have HL1 := Lib.hid hb1; clear hb1 c0 c1 c2; go_wp2_with fail
  have c0 : w1.cell? ⟨P, 0, none⟩ = some (.int .i64 t.first) := (HPW.out.below HL1.out HPW.out.lt).cell 0
  have c1 : w1.cell? ⟨P, 1, none⟩ = some (.int .i64 t.weeks) := (HPW.out.below HL1.out HPW.out.lt).cell 1
  have c2 : w1.cell? ⟨P, 2, none⟩ = some (.slice ao t.hols.length c) := (HPW.out.below HL1.out HPW.out.lt).cell 2
  obtain ⟨IB, hIB⟩ : ∃ b, b = Tt.isD LT := ⟨_, rfl⟩
  rw [← hIB] at HE
  have HIB := Lib.hid hIB; clear hIB; refine (isD192 _ _).mono ?_
  rintro e w2 ⟨rfl, hx⟩; rw [hx, ← HIB.out]
  clear hx w2; cases IB
  · have HE1 := Lib.hid (show E = 13 from by rw [HE.out, if_neg (fun h => h HD0.out), if_neg HW.out, if_pos rfl])
    go_wp2_with fail
    go_ret; exact ⟨ret_int HE1.out.symm, HBW.out.trans (HL1.out.mono HBW.out.size)⟩
  · by_cases hm : 64 < (t.hols.length : Int)
    · have HE1 := Lib.hid (show E = 2 from by rw [HE.out, if_neg (fun h => h HD0.out), if_neg HW.out, if_neg (by decide), if_pos hm])
      go_wp2_with fail
      go_ret; exact ⟨ret_int HE1.out.symm, HBW.out.trans (HL1.out.mono HBW.out.size)⟩
    have HE1 := Lib.hid (show Tt.holF t.first LT t.hols 0 = E from by rw [HE.out, if_neg (fun h => h HD0.out), if_neg HW.out, if_neg (by decide), if_neg hm])
    obtain ⟨xs, hxs⟩ : ∃ xs, xs = t.hols := ⟨_, rfl⟩
    go_wp2_with fail
    go_loopw [32] (fun iv wr => ∃ k : Nat, iv = .int .i64 k ∧ k ≤ t.hols.length ∧ Hid (Tt.holF t.first LT t.hols k = E) ∧ Hid (Below W.heap.size W wr)) (fun iv _ => t.hols.length - (intOf iv).toNat)
    case atStart => exact ⟨0, rfl, Nat.zero_le _, HE1, HL1⟩
    case round =>
      clear c0 c1 c2; obtain ⟨k, rfl, hk, HK, HB⟩ := hrel; have c0 : wr.cell? ⟨P, 0, none⟩ = some (.int .i64 t.first) := (HPW.out.below HB.out HPW.out.lt).cell 0
      have c1 : wr.cell? ⟨P, 1, none⟩ = some (.int .i64 t.weeks) := (HPW.out.below HB.out HPW.out.lt).cell 1
      have c2 : wr.cell? ⟨P, 2, none⟩ = some (.slice ao t.hols.length c) := (HPW.out.below HB.out HPW.out.lt).cell 2
      by_cases hlt : k < t.hols.length
      · obtain ⟨d, hd⟩ : ∃ d, t.hols[k]? = some d := ⟨_, List.getElem?_eq_getElem hlt⟩
        have HIr := Lib.hid (HIW.out.below (HB.out.mono (by have := HPW.out.lt; have := HBP.out; omega)))
        obtain ⟨b, o, ha, hb3, hc0⟩ := HIr.out.form (by omega)
        subst ha; have hc := hc0 k d hd; have hki : (k : Int) < (t.hols.length : Int) := by omega
        have hkz : (0 : Int) ≤ (k : Int) := by omega
        have HST := Lib.hid (Tt.holF_step t.first LT t.hols k d hd)
        have HFIN := Lib.hid (show Below w.heap.size w wr from HBW.out.trans (HB.out.mono HBW.out.size))
        by_cases h1 : d < t.first
        · have HR := Lib.hid (show E = 13 from by rw [← HK.out, HST.out, if_pos (.inl h1)])
          clear hd hc0; go_wp2_with fail
          go_ret; exact ⟨ret_int HR.out.symm, HFIN.out⟩
        by_cases h2 : LT < d
        · have HR := Lib.hid (show E = 13 from by rw [← HK.out, HST.out, if_pos (.inr h2)])
          clear hd hc0; go_wp2_with fail
          refine (HC.out _ HB.out).mono ?_
          rintro e w5 ⟨rfl, hb5⟩; have HB5 := Lib.hid (HB.out.trans (hb5.mono HB.out.size))
          have HF5 := Lib.hid (HFIN.out.trans (hb5.mono HFIN.out.size))
          clear hb5 c0 c1 c2 hc; go_wp2_with fail
          go_ret; exact ⟨ret_int HR.out.symm, HF5.out⟩
        have HS2 := Lib.hid (show E = if (Tt.prevI t.hols k).any (fun q => decide (d ≤ q)) = true then 11 else Tt.holF t.first LT t.hols (k + 1) from by rw [← HK.out, HST.out, if_neg (fun h => h.elim h1 h2)])
        by_cases hk0 : k = 0
        · subst hk0; have hki0 : (0 : Int) < (t.hols.length : Int) := by omega
          have hc : wr.cell? ⟨b, o, none⟩ = some (.int .i64 d) := by simpa using hc
          have HR := Lib.hid (show Tt.holF t.first LT t.hols 1 = E from by rw [HS2.out]; rfl)
          clear hd hc0; go_wp2_with fail
          refine (HC.out _ HB.out).mono ?_
          rintro e w5 ⟨rfl, hb5⟩; have HB5 := Lib.hid (HB.out.trans (hb5.mono HB.out.size))
          have HF5 := Lib.hid (HFIN.out.trans (hb5.mono HFIN.out.size))
          clear hb5 c0 c1 c2 hc; go_wp2_with fail
          go_roundw
          case rel => exact ⟨1, by go_num, by omega, HR, HB5⟩
          case measure => simp [intOf]; omega
        obtain ⟨d2, hd2⟩ : ∃ d2, t.hols[k - 1]? = some d2 := ⟨_, List.getElem?_eq_getElem (by omega)⟩
        have hc2x := hc0 (k - 1) d2 hd2
        have hk3 : (0 : Int) < (k : Int) := by omega
        have hk4 : (0 : Int) ≤ (k : Int) - 1 := by omega
        have hk5 : (k : Int) - 1 < (t.hols.length : Int) := by omega
        have hk6 : ((k : Int) - 1).toNat = k - 1 := by omega
        have hk7 : wrap64 ((k : Int) - 1) = (k : Int) - 1 := by unfold RowKit.wrap64; omega
        have HPR := Lib.hid (show Tt.prevI t.hols k = some d2 from by unfold Tt.prevI; rw [if_neg hk0, hd2])
        by_cases h3 : d ≤ d2
        · have HR := Lib.hid (show E = 11 from by rw [HS2.out, HPR.out]; exact if_pos (decide_eq_true h3))
          clear hd hc0 hd2 hk0; go_wp2_with fail
          refine (HC.out _ HB.out).mono ?_
          rintro e w5 ⟨rfl, hb5⟩; have HB5 := Lib.hid (HB.out.trans (hb5.mono HB.out.size))
          have HF5 := Lib.hid (HFIN.out.trans (hb5.mono HFIN.out.size))
          have hc2y := (hb5.cell (p := ⟨b, o + (k - 1), none⟩) (by have := HB.out.size; have := HPW.out.lt; have := HBP.out; show b < _; omega)).trans hc2x
          have c2y := (hb5.cell (p := ⟨P, 2, none⟩) (by have := HB.out.size; have := HPW.out.lt; show P < _; omega)).trans c2
          clear hb5 c0 c1 c2 hc hc2x; go_wp2_with fail
          go_ret; exact ⟨ret_int HR.out.symm, HF5.out⟩
        · have HR := Lib.hid (show Tt.holF t.first LT t.hols (k + 1) = E from by rw [HS2.out, HPR.out]; exact (if_neg (by simp; omega)).symm)
          clear hd hc0 hd2 hk0; go_wp2_with fail
          refine (HC.out _ HB.out).mono ?_
          rintro e w5 ⟨rfl, hb5⟩; have HB5 := Lib.hid (HB.out.trans (hb5.mono HB.out.size))
          have HF5 := Lib.hid (HFIN.out.trans (hb5.mono HFIN.out.size))
          have hc2y := (hb5.cell (p := ⟨b, o + (k - 1), none⟩) (by have := HB.out.size; have := HPW.out.lt; have := HBP.out; show b < _; omega)).trans hc2x
          have c2y := (hb5.cell (p := ⟨P, 2, none⟩) (by have := HB.out.size; have := HPW.out.lt; show P < _; omega)).trans c2
          clear hb5 c0 c1 c2 hc hc2x; go_wp2_with fail
          go_roundw
          case rel => exact ⟨k + 1, by go_num, by omega, HR, HB5⟩
          case measure => simp [intOf]; omega
      · have hki : ¬ (k : Int) < (t.hols.length : Int) := by omega
        have HR := Lib.hid (show E = 0 from by rw [← HK.out]; exact Tt.holF_end _ _ _ _ (by omega))
        have HFIN := Lib.hid (show Below w.heap.size w wr from HBW.out.trans (HB.out.mono HBW.out.size))
        go_wp2_with fail
        go_ret; exact ⟨ret_int HR.out.symm, HFIN.out⟩
set_option maxHeartbeats 4000000 in
set_option maxRecDepth 100000 in
theorem trm138 (t : Tt.Trm) (ao : Option Addr) (c : Nat) (B : Nat) (w : World) (hB : B ≤ w.heap.size) (hI : Ints B w ao t.hols) (hn : t.hols.length ≤ 4611686018427387903) : Calls Tryz.prog 138 #[trmVal t (.slice ao t.hols.length c)] w fun e w' => e = .returned (.int .i64 (Tt.trmV t)) ∧ Below w.heap.size w w' := by
  obtain ⟨E, hE⟩ : ∃ E, E = Tt.trmV t := ⟨_, rfl⟩
  rw [← hE]; have HE := Lib.hid (show E = (if Tt.wkdV t.first ≠ 0 then 13 else if t.weeks < 1 ∨ 20 < t.weeks then 3 else if Tt.isD (Tt.lastT t) = false then 13 else if 64 < (t.hols.length : Int) then 2 else Tt.holF t.first (Tt.lastT t) t.hols 0) from hE)
  clear hE; obtain ⟨P, hP⟩ : ∃ P, P = w.heap.size := ⟨_, rfl⟩
  obtain ⟨W, hW⟩ : ∃ W, W = w.alloc (.cells #[.int .i64 t.first, .int .i64 t.weeks, .slice ao t.hols.length c] 93) := ⟨_, rfl⟩
  have HBW := Lib.hid (show Below w.heap.size w W from by rw [hW]; exact below_box w _)
  have HPW := Lib.hid (show Blk P #[.int .i64 t.first, .int .i64 t.weeks, .slice ao t.hols.length c] 93 W from by rw [hW, hP]; exact Blk.new w _ _)
  have HIW := Lib.hid (show Ints B W ao t.hols from hI.below (HBW.out.mono hB))
  have HBP := Lib.hid (show B ≤ P by omega)
  unfold trmVal
  clear hI; have c0 : W.cell? ⟨P, 0, none⟩ = some (.int .i64 t.first) := HPW.out.cell 0
  have c1 : W.cell? ⟨P, 1, none⟩ = some (.int .i64 t.weeks) := HPW.out.cell 1
  have c2 : W.cell? ⟨P, 2, none⟩ = some (.slice ao t.hols.length c) := HPW.out.cell 2
  obtain ⟨D, hD⟩ : ∃ D, D = Tt.wkdV t.first := ⟨_, rfl⟩
  rw [← hD] at HE
  have HD := Lib.hid hD; clear hD; have HDF : Hid (D = 0 → 0 ≤ t.first ∧ t.first ≤ 36524) := Lib.hid (fun h => by
    rw [HD.out] at h
    unfold Tt.wkdV at h
    split at h
    · rename_i hd; exact (Tt.isD_iff _).1 hd
    · cases h)
  go_enter Tryz.func138, Tryz.ntmps138
  go_upto_region 1 with (fail)
  rw [← hW, ← hP]; clear hW hP; go_wp2_with fail
  refine (wkd209_any _ _).mono ?_
  rintro e w1 ⟨rfl, hx⟩; rw [hx, ← HD.out]
  clear hx w1; by_cases hD0 : D = 0
  rotate_left
  · have hb : (D != 0) = true := by simp [hD0]
    have HE1 := Lib.hid (show E = 13 from by rw [HE.out, if_pos hD0])
    clear hD0; go_wp2_with fail
    go_ret; exact ⟨ret_int HE1.out.symm, HBW.out⟩
  have hb : (D != 0) = false := by simp [hD0]
  obtain ⟨f0, f1⟩ := HDF.out hD0
  have HD0 := Lib.hid hD0; clear hD0; by_cases hw : t.weeks < 1 ∨ 20 < t.weeks
  · have HE1 := Lib.hid (show E = 3 from by rw [HE.out, if_neg (fun h => h HD0.out), if_pos hw])
    rcases hw with hw | hw
    · go_wp2_with fail
      all_goals first
        | (exfalso; omega)
        | (go_ret
           exact ⟨ret_int HE1.out.symm, HBW.out⟩)
    · go_wp2_with fail
      all_goals first
        | (exfalso; omega)
        | (go_ret
           exact ⟨ret_int HE1.out.symm, HBW.out⟩)
  have hw0 : 1 ≤ t.weeks := by omega
  have hw1 : t.weeks ≤ 20 := by omega
  have HW := Lib.hid hw; clear hw; obtain ⟨LT, hLT⟩ : ∃ L, L = Tt.lastT t := ⟨_, rfl⟩
  rw [← hLT] at HE
  have HLT := Lib.hid (show LT = t.first + 7 * t.weeks - 1 from hLT)
  have HLT2 := Lib.hid hLT; clear hLT; go_wp2_with fail
  rw [show t.first + 7 * t.weeks - 1 = LT from HLT.out.symm]
  have HL1 : Hid (Below W.heap.size W W) := Lib.hid (Below.refl _ _)
  obtain ⟨w1, hw1x⟩ : ∃ w1, w1 = W := ⟨_, rfl⟩
  rw [← hw1x] at c0 c1 c2 ⊢
  rw [show Below W.heap.size W W ↔ Below W.heap.size W w1 by rw [hw1x]] at HL1
  clear hw1x; obtain ⟨IB, hIB⟩ : ∃ b, b = Tt.isD LT := ⟨_, rfl⟩
  rw [← hIB] at HE
  have HIB := Lib.hid hIB; clear hIB; refine (isD210 _ _).mono ?_
  rintro e w2 ⟨rfl, hx⟩; rw [hx, ← HIB.out]
  clear hx w2; cases IB
  · have HE1 := Lib.hid (show E = 13 from by rw [HE.out, if_neg (fun h => h HD0.out), if_neg HW.out, if_pos rfl])
    go_wp2_with fail
    go_ret; exact ⟨ret_int HE1.out.symm, HBW.out.trans (HL1.out.mono HBW.out.size)⟩
  · by_cases hm : 64 < (t.hols.length : Int)
    · have HE1 := Lib.hid (show E = 2 from by rw [HE.out, if_neg (fun h => h HD0.out), if_neg HW.out, if_neg (by decide), if_pos hm])
      go_wp2_with fail
      go_ret; exact ⟨ret_int HE1.out.symm, HBW.out.trans (HL1.out.mono HBW.out.size)⟩
    have HE1 := Lib.hid (show Tt.holF t.first LT t.hols 0 = E from by rw [HE.out, if_neg (fun h => h HD0.out), if_neg HW.out, if_neg (by decide), if_neg hm])
    obtain ⟨xs, hxs⟩ : ∃ xs, xs = t.hols := ⟨_, rfl⟩
    go_wp2_with fail
    go_loopw [4] (fun iv wr => ∃ k : Nat, iv = .int .i64 k ∧ k ≤ t.hols.length ∧ Hid (Tt.holF t.first LT t.hols k = E) ∧ Hid (Below W.heap.size W wr)) (fun iv _ => t.hols.length - (intOf iv).toNat)
    case atStart => exact ⟨0, rfl, Nat.zero_le _, HE1, HL1⟩
    case round =>
      clear c0 c1 c2; obtain ⟨k, rfl, hk, HK, HB⟩ := hrel; have c0 : wr.cell? ⟨P, 0, none⟩ = some (.int .i64 t.first) := (HPW.out.below HB.out HPW.out.lt).cell 0
      have c1 : wr.cell? ⟨P, 1, none⟩ = some (.int .i64 t.weeks) := (HPW.out.below HB.out HPW.out.lt).cell 1
      have c2 : wr.cell? ⟨P, 2, none⟩ = some (.slice ao t.hols.length c) := (HPW.out.below HB.out HPW.out.lt).cell 2
      by_cases hlt : k < t.hols.length
      · obtain ⟨d, hd⟩ : ∃ d, t.hols[k]? = some d := ⟨_, List.getElem?_eq_getElem hlt⟩
        have HIr := Lib.hid (HIW.out.below (HB.out.mono (by have := HPW.out.lt; have := HBP.out; omega)))
        obtain ⟨b, o, ha, hb3, hc0⟩ := HIr.out.form (by omega)
        subst ha; have hc := hc0 k d hd; have hki : (k : Int) < (t.hols.length : Int) := by omega
        have hkz : (0 : Int) ≤ (k : Int) := by omega
        have HST := Lib.hid (Tt.holF_step t.first LT t.hols k d hd)
        have HFIN := Lib.hid (show Below w.heap.size w wr from HBW.out.trans (HB.out.mono HBW.out.size))
        by_cases h1 : d < t.first
        · have HR := Lib.hid (show E = 13 from by rw [← HK.out, HST.out, if_pos (.inl h1)])
          clear hd hc0; go_upto_region 13 with (fail)
          go_quiet (fail)
          go_wp2_with fail
          go_ret; exact ⟨ret_int HR.out.symm, HFIN.out.trans ⟨rfl, rfl, rfl, Nat.le_refl _, fun k hk => rfl⟩⟩
        by_cases h2 : LT < d
        · have HR := Lib.hid (show E = 13 from by rw [← HK.out, HST.out, if_pos (.inr h2)])
          clear hd hc0; go_upto_region 13 with (fail)
          go_quiet (fail)
          go_wp2_with fail
          go_ret; exact ⟨ret_int HR.out.symm, HFIN.out.trans ⟨rfl, rfl, rfl, Nat.le_refl _, fun k hk => rfl⟩⟩
        have HS2 := Lib.hid (show E = if (Tt.prevI t.hols k).any (fun q => decide (d ≤ q)) = true then 11 else Tt.holF t.first LT t.hols (k + 1) from by rw [← HK.out, HST.out, if_neg (fun h => h.elim h1 h2)])
        by_cases hk0 : k = 0
        · subst hk0; have hki0 : (0 : Int) < (t.hols.length : Int) := by omega
          have hc : wr.cell? ⟨b, o, none⟩ = some (.int .i64 d) := by simpa using hc
          have HR := Lib.hid (show Tt.holF t.first LT t.hols 1 = E from by rw [HS2.out]; rfl)
          clear hd hc0; go_upto_region 13 with (fail)
          go_quiet (fail)
          obtain ⟨w2, hw2, hB2, hC2, hH2⟩ := redrew wr nq
          have e0 := (hC2 _).trans c0
          have e1 := (hC2 _).trans c1
          have e2 := (hC2 _).trans c2
          have ec := (hC2 _).trans hc
          rw [← hw2]; have HB := Lib.hid (HB.out.trans (hB2 _))
          have HFIN := Lib.hid (HFIN.out.trans (hB2 _))
          clear hw2 hB2 hC2 hH2 c0 c1 c2 hc; go_upto_region 15 with (fail)
          go_quiet (fail)
          go_wp2_with fail
          go_roundw
          case rel => exact ⟨1, by go_num, by omega, HR, Lib.hid (HB.out.trans ⟨rfl, rfl, rfl, Nat.le_refl _, fun k hk => rfl⟩)⟩
          case measure => simp [intOf]; omega
        obtain ⟨j, rfl⟩ : ∃ j, k = j + 1 := ⟨k - 1, by omega⟩
        obtain ⟨d2, hd2⟩ : ∃ d2, t.hols[j]? = some d2 := ⟨_, List.getElem?_eq_getElem (by omega)⟩
        have hc2x := hc0 j d2 hd2; have hj0 : (0 : Int) ≤ (j : Int) + 1 := by omega
        have hjn : ((j : Int) + 1).toNat = j + 1 := by omega
        have hj1 : (j : Int) < (t.hols.length : Int) := by omega
        have hj2 : (j : Int) + 1 < (t.hols.length : Int) := by omega
        have hj3 : (0 : Int) < (j : Int) + 1 := by omega
        have hj4 : (0 : Int) ≤ (j : Int) := by omega
        have HPR := Lib.hid (show Tt.prevI t.hols (j + 1) = some d2 from by unfold Tt.prevI; rw [if_neg hk0, Nat.add_sub_cancel, hd2])
        by_cases h3 : d ≤ d2
        · have HR := Lib.hid (show E = 11 from by rw [HS2.out, HPR.out]; exact if_pos (decide_eq_true h3))
          clear hd hc0 hd2 hk0; go_upto_region 13 with (fail)
          go_quiet (fail)
          obtain ⟨w2, hw2, hB2, hC2, hH2⟩ := redrew wr nq
          have e0 := (hC2 _).trans c0
          have e1 := (hC2 _).trans c1
          have e2 := (hC2 _).trans c2
          have ec := (hC2 _).trans hc
          have ed := (hC2 _).trans hc2x
          rw [← hw2]; have HB := Lib.hid (HB.out.trans (hB2 _))
          have HFIN := Lib.hid (HFIN.out.trans (hB2 _))
          clear hw2 hB2 hC2 hH2 c0 c1 c2 hc hc2x; go_upto_region 15 with (fail)
          go_quiet (fail)
          go_wp2_with fail
          go_ret; exact ⟨ret_int HR.out.symm, HFIN.out.trans ⟨rfl, rfl, rfl, Nat.le_refl _, fun k hk => rfl⟩⟩
        · have HR := Lib.hid (show Tt.holF t.first LT t.hols (j + 1 + 1) = E from by rw [HS2.out, HPR.out]; exact (if_neg (by simp; omega)).symm)
          clear hd hc0 hd2 hk0; go_upto_region 13 with (fail)
          go_quiet (fail)
          obtain ⟨w2, hw2, hB2, hC2, hH2⟩ := redrew wr nq
          have e0 := (hC2 _).trans c0
          have e1 := (hC2 _).trans c1
          have e2 := (hC2 _).trans c2
          have ec := (hC2 _).trans hc
          have ed := (hC2 _).trans hc2x
          rw [← hw2]; have HB := Lib.hid (HB.out.trans (hB2 _))
          have HFIN := Lib.hid (HFIN.out.trans (hB2 _))
          clear hw2 hB2 hC2 hH2 c0 c1 c2 hc hc2x; go_upto_region 15 with (fail)
          go_quiet (fail)
          go_wp2_with fail
          go_roundw
          case rel => exact ⟨j + 1 + 1, by go_num, by omega, HR, Lib.hid (HB.out.trans ⟨rfl, rfl, rfl, Nat.le_refl _, fun k hk => rfl⟩)⟩
          case measure => simp [intOf]; omega
      · have hki : ¬ (k : Int) < (t.hols.length : Int) := by omega
        have HR := Lib.hid (show E = 0 from by rw [← HK.out]; exact Tt.holF_end _ _ _ _ (by omega))
        have HFIN := Lib.hid (show Below w.heap.size w wr from HBW.out.trans (HB.out.mono HBW.out.size))
        go_wp2_with fail
        go_ret; exact ⟨ret_int HR.out.symm, HFIN.out⟩
end Go.Proofs.YtageielcdebjlaaGreatDoor
namespace Go.Proofs.YtageielcdebjlaaGreatDoor
open Go.RowKit

/-- What a drawn region has done so far: it has made blocks. -/
structure Made (w w' : World) : Prop where
  below : Below w.heap.size w w'
theorem Made.start (w : World) : Made w w.drew := ⟨below_drw (Below.refl _ w)⟩
theorem Made.then {w w1 w2 : World} (h : Made w w1) (k : Below w1.heap.size w1 w2) : Made w w2 := ⟨below_then h.below k⟩
theorem Made.alloc {w w1 : World} (h : Made w w1) (o : Obj) : Made w (w1.alloc o) := h.then (below_box _ _)
theorem Made.blk {w w1 : World} (h : Made w w1) {g : Nat} {cs : Array Value} {ty : TypeId} (k : Blk g cs ty w) : Blk g cs ty w1 := k.below h.below k.lt
theorem row_made {w w' : World} {B k : Nat} {e : TypeId} {v : Value} {n : Nat} {xs : List Value} (h : w.ownsRow B e k v n xs) (hb : Below w.heap.size w w') : w'.ownsRow B e k v n xs := by
  refine ⟨h.1, ?_⟩
  rcases h.2 with h1 | ⟨g, cap, cur, r1, r2, r3, r4⟩
  · exact .inl h1
  · exact .inr ⟨g, cap, cur, r1, r2, (hb.block g (Array.getElem?_eq_some_iff.1 r3).1).trans r3, r4⟩
theorem Kept.made {B : Nat} {w w' : World} (h : Below w.heap.size w w') : Kept B w w' := fun _ _ _ _ hk => hk.below h hk.lt

end Go.Proofs.YtageielcdebjlaaGreatDoor
