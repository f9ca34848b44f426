/- The days of a time in a term: calendar.At, Days, and the reference's. A set of numbers in a map that the call makes (map[int]bool): filled and asked. Plain facts on dates: lengths of months and years, the date of a day and the day of a date. No program in sight. Condition: none. Dates: the contracts of calendar.Parts, calendar.Day and of the reference's. -/
import Derived.Test.YtageielcdebjlaaGreatDoorPk13
import Derived.Test.YtageielcdebjlaaGreatDoorPk14
import Derived.Maps.OwnOps
import Derived.Maps.Views
import Derived.Test.YtageielcdebjlaaGreatDoorPk1
import Derived.Test.YtageielcdebjlaaGreatDoorPk5
namespace Go.Proofs.YtageielcdebjlaaGreatDoor
open Go.RowKit

theorem atB_of {t : Tt.Trm} {k d : Int} (h1 : Tt.trmV t = 0) (h2 : 1 ≤ k ∧ k ≤ t.weeks ∧ 0 ≤ d ∧ d < 7) : Tt.atB t k d = !decide (Tt.atD t k d ∈ t.hols) := by
  unfold Tt.atB; rw [decide_eq_true ⟨h1, h2⟩, Bool.true_and]
theorem atB_no {t : Tt.Trm} {k d : Int} (h : ¬ (Tt.trmV t = 0 ∧ 1 ≤ k ∧ k ≤ t.weeks ∧ 0 ≤ d ∧ d < 7)) : Tt.atB t k d = false := by
  unfold Tt.atB; rw [decide_eq_false h, Bool.false_and]
theorem ret_at {a b : Int} {c d : Bool} (h1 : a = b) (h2 : c = d) : Ending.returned (.tuple #[.int .i64 a, .bool c]) = .returned (.tuple #[.int .i64 b, .bool d]) := by rw [h1, h2]
set_option maxHeartbeats 4000000 in
set_option maxRecDepth 100000 in
theorem at144 (t : Tt.Trm) (ao : Option Addr) (c : Nat) (B : Nat) (k d : Int) (w : World) (hB : B ≤ w.heap.size) (hI : Ints B w ao t.hols) (hn : t.hols.length ≤ 4611686018427387903) : Calls Tryz.prog 144 #[trmVal t (.slice ao t.hols.length c), .int .i64 k, .int .i64 d] w fun e w' => e = .returned (.tuple #[.int .i64 (if Tt.atB t k d = true then Tt.atD t k d else 0), .bool (Tt.atB t k d)]) ∧ Below w.heap.size w w' := by
  obtain ⟨A, hA⟩ : ∃ A, A = Tt.atB t k d := ⟨_, rfl⟩
  rw [← hA]; have HA := Lib.hid hA; clear hA; obtain ⟨V, hV⟩ : ∃ V : Int, V = if A = true then Tt.atD t k d else 0 := ⟨_, rfl⟩
  rw [← hV]; have HV := Lib.hid hV; clear hV; obtain ⟨P, hP⟩ : ∃ P, P = w.heap.size := ⟨_, rfl⟩
  obtain ⟨W, hW⟩ : ∃ W, W = w.alloc (.cells #[.int .i64 t.first, .int .i64 t.weeks, .slice ao t.hols.length c] 93) := ⟨_, rfl⟩
  have HBW := Lib.hid (show Below w.heap.size w W from by rw [hW]; exact below_box w _)
  have HPW := Lib.hid (show Blk P #[.int .i64 t.first, .int .i64 t.weeks, .slice ao t.hols.length c] 93 W from by rw [hW, hP]; exact Blk.new w _ _)
  have HIW := Lib.hid (show Ints B W ao t.hols from hI.below (HBW.out.mono hB))
  have hBW : B ≤ W.heap.size := Nat.le_trans hB HBW.out.size
  have HC1 := Lib.hid (show ∀ X, Below W.heap.size W X → Calls Tryz.prog 125 #[.agg #[.int .i64 t.first, .int .i64 t.weeks, .slice ao t.hols.length c]] X fun e w' => e = .returned (.int .i64 (Tt.trmV t)) ∧ Below X.heap.size X w' from fun X hX => trm125 t ao c B X (Nat.le_trans hBW hX.size) (HIW.out.below (hX.mono hBW)) hn)
  have HC2 := Lib.hid (show ∀ (x : Int) X, Below W.heap.size W X → Calls Tryz.prog 219 #[.agg #[.int .i64 t.first, .int .i64 t.weeks, .slice ao t.hols.length c], .int .i64 x] X fun e w' => e = .returned (.bool (!decide (x ∈ t.hols))) ∧ Below X.heap.size X w' from fun x X hX => free219 t ao c B x X (Nat.le_trans hBW hX.size) (HIW.out.below (hX.mono hBW)) hn)
  unfold trmVal
  clear hI hB hBW hn; have c0 : W.cell? ⟨P, 0, none⟩ = some (.int .i64 t.first) := HPW.out.cell 0
  have c1 : W.cell? ⟨P, 1, none⟩ = some (.int .i64 t.weeks) := HPW.out.cell 1
  have c2 : W.cell? ⟨P, 2, none⟩ = some (.slice ao t.hols.length c) := HPW.out.cell 2
  obtain ⟨T, hT⟩ : ∃ T, T = Tt.trmV t := ⟨_, rfl⟩
  rw [← hT] at HC1
  have HT := Lib.hid hT; clear hT; go_enter Tryz.func144, Tryz.ntmps144
  go_upto_region 1 with (fail)
  rw [← hW, ← hP]; clear hW hP; go_wp2_with fail
  refine (HC1.out _ (Below.refl _ _)).mono ?_
  rintro e w1 ⟨rfl, hb1⟩; have HB1 := Lib.hid hb1; clear hb1 c0 c1 c2; have c0 : w1.cell? ⟨P, 0, none⟩ = some (.int .i64 t.first) := (HPW.out.below HB1.out HPW.out.lt).cell 0
  have c1 : w1.cell? ⟨P, 1, none⟩ = some (.int .i64 t.weeks) := (HPW.out.below HB1.out HPW.out.lt).cell 1
  have c2 : w1.cell? ⟨P, 2, none⟩ = some (.slice ao t.hols.length c) := (HPW.out.below HB1.out HPW.out.lt).cell 2
  have HF1 := Lib.hid (HBW.out.trans (HB1.out.mono HBW.out.size))
  by_cases hT0 : T = 0
  rotate_left
  · have hb : (T != 0) = true := by simp [hT0]
    have HA0 := Lib.hid (show A = false from by rw [HA.out]; exact atB_no (fun h => hT0 (HT.out.trans h.1)))
    clear hT0; go_wp2_with fail
    go_ret2
    exact ⟨ret_at (by rw [HV.out, HA0.out]; rfl) HA0.out.symm, HF1.out⟩
  have hb : (T != 0) = false := by simp [hT0]
  obtain ⟨f0, f1, k0, k1, l1, -⟩ := Tt.trmV_ok (HT.out.symm.trans hT0)
  have HT0 := Lib.hid hT0; clear hT0; have HLT := Lib.hid (show Tt.lastT t = t.first + 7 * t.weeks - 1 from rfl)
  by_cases hk : 1 ≤ k ∧ k ≤ t.weeks ∧ 0 ≤ d ∧ d < 7
  rotate_left
  · have HA0 := Lib.hid (show A = false from by rw [HA.out]; exact atB_no (fun h => hk h.2))
    go_wp2_with fail
    all_goals first
      | (exfalso; omega)
      | (go_ret2
         exact ⟨ret_at (by rw [HV.out, HA0.out]; rfl) HA0.out.symm, HF1.out⟩)
  have HK := Lib.hid hk; obtain ⟨g0, g1, g2, g3⟩ := hk; have HAD := Lib.hid (show Tt.atD t k d = t.first + 7 * (k - 1) + d from rfl)
  have HA1 := Lib.hid (show A = !decide (t.first + 7 * (k - 1) + d ∈ t.hols) from by rw [HA.out]; exact atB_of (HT.out.symm.trans HT0.out) HK.out)
  clear l1; go_wp2_with fail
  refine (HC2.out _ _ HB1.out).mono ?_
  rintro e w2 ⟨rfl, hb2⟩; have HF2 := Lib.hid (HF1.out.trans (hb2.mono HF1.out.size))
  clear hb2 c0 c1 c2; obtain ⟨M, hM⟩ : ∃ M, M = decide (t.first + 7 * (k - 1) + d ∈ t.hols) := ⟨_, rfl⟩
  rw [← hM] at HA1 ⊢
  clear hM; cases M
  · go_wp2_with fail
    go_ret2
    exact ⟨ret_at (by rw [HV.out, HA1.out]; exact HAD.out.symm) (by rw [HA1.out]; rfl), HF2.out⟩
  · go_wp2_with fail
    go_ret2
    exact ⟨ret_at (by rw [HV.out, HA1.out]; rfl) (by rw [HA1.out]; rfl), HF2.out⟩
set_option maxHeartbeats 4000000 in
set_option maxRecDepth 100000 in
theorem at214 (t : Tt.Trm) (ao : Option Addr) (c : Nat) (B : Nat) (k d : Int) (w : World) (hB : B ≤ w.heap.size) (hI : Ints B w ao t.hols) (hn : t.hols.length ≤ 4611686018427387903) : Calls Tryz.prog 214 #[trmVal t (.slice ao t.hols.length c), .int .i64 k, .int .i64 d] w fun e w' => e = .returned (.tuple #[.int .i64 (if Tt.atB t k d = true then Tt.atD t k d else 0), .bool (Tt.atB t k d)]) ∧ Below w.heap.size w w' := by
  obtain ⟨A, hA⟩ : ∃ A, A = Tt.atB t k d := ⟨_, rfl⟩
  rw [← hA]; have HA := Lib.hid hA; clear hA; obtain ⟨V, hV⟩ : ∃ V : Int, V = if A = true then Tt.atD t k d else 0 := ⟨_, rfl⟩
  rw [← hV]; have HV := Lib.hid hV; clear hV; obtain ⟨P, hP⟩ : ∃ P, P = w.heap.size := ⟨_, rfl⟩
  obtain ⟨W, hW⟩ : ∃ W, W = w.alloc (.cells #[.int .i64 t.first, .int .i64 t.weeks, .slice ao t.hols.length c] 93) := ⟨_, rfl⟩
  have HBW := Lib.hid (show Below w.heap.size w W from by rw [hW]; exact below_box w _)
  have HPW := Lib.hid (show Blk P #[.int .i64 t.first, .int .i64 t.weeks, .slice ao t.hols.length c] 93 W from by rw [hW, hP]; exact Blk.new w _ _)
  have HIW := Lib.hid (show Ints B W ao t.hols from hI.below (HBW.out.mono hB))
  have hBW : B ≤ W.heap.size := Nat.le_trans hB HBW.out.size
  have HC1 := Lib.hid (show ∀ X, Below W.heap.size W X → Calls Tryz.prog 138 #[.agg #[.int .i64 t.first, .int .i64 t.weeks, .slice ao t.hols.length c]] X fun e w' => e = .returned (.int .i64 (Tt.trmV t)) ∧ Below X.heap.size X w' from fun X hX => trm138 t ao c B X (Nat.le_trans hBW hX.size) (HIW.out.below (hX.mono hBW)) hn)
  have HC2 := Lib.hid (show ∀ (x : Int) X, Below W.heap.size W X → Calls Tryz.prog 282 #[.agg #[.int .i64 t.first, .int .i64 t.weeks, .slice ao t.hols.length c], .int .i64 x] X fun e w' => e = .returned (.bool (decide (x ∈ t.hols))) ∧ Below X.heap.size X w' from fun x X hX => free282 t ao c B x X (Nat.le_trans hBW hX.size) (HIW.out.below (hX.mono hBW)) hn)
  unfold trmVal
  clear hI hB hBW hn; have c0 : W.cell? ⟨P, 0, none⟩ = some (.int .i64 t.first) := HPW.out.cell 0
  have c1 : W.cell? ⟨P, 1, none⟩ = some (.int .i64 t.weeks) := HPW.out.cell 1
  have c2 : W.cell? ⟨P, 2, none⟩ = some (.slice ao t.hols.length c) := HPW.out.cell 2
  obtain ⟨T, hT⟩ : ∃ T, T = Tt.trmV t := ⟨_, rfl⟩
  rw [← hT] at HC1
  have HT := Lib.hid hT; clear hT; go_enter Tryz.func214, Tryz.ntmps214
  go_upto_region 1 with (fail)
  rw [← hW, ← hP]; clear hW hP; go_wp2_with fail
  refine (HC1.out _ (Below.refl _ _)).mono ?_
  rintro e w1 ⟨rfl, hb1⟩; have HB1 := Lib.hid hb1; clear hb1 c0 c1 c2; have c0 : w1.cell? ⟨P, 0, none⟩ = some (.int .i64 t.first) := (HPW.out.below HB1.out HPW.out.lt).cell 0
  have c1 : w1.cell? ⟨P, 1, none⟩ = some (.int .i64 t.weeks) := (HPW.out.below HB1.out HPW.out.lt).cell 1
  have c2 : w1.cell? ⟨P, 2, none⟩ = some (.slice ao t.hols.length c) := (HPW.out.below HB1.out HPW.out.lt).cell 2
  have HF1 := Lib.hid (HBW.out.trans (HB1.out.mono HBW.out.size))
  by_cases hT0 : T = 0
  rotate_left
  · have hb : (T != 0) = true := by simp [hT0]
    have HA0 := Lib.hid (show A = false from by rw [HA.out]; exact atB_no (fun h => hT0 (HT.out.trans h.1)))
    clear hT0; go_wp2_with fail
    go_ret2
    exact ⟨ret_at (by rw [HV.out, HA0.out]; rfl) HA0.out.symm, HF1.out⟩
  have hb : (T != 0) = false := by simp [hT0]
  obtain ⟨f0, f1, k0, k1, l1, -⟩ := Tt.trmV_ok (HT.out.symm.trans hT0)
  have HT0 := Lib.hid hT0; clear hT0; have HLT := Lib.hid (show Tt.lastT t = t.first + 7 * t.weeks - 1 from rfl)
  by_cases hk : 1 ≤ k ∧ k ≤ t.weeks ∧ 0 ≤ d ∧ d < 7
  rotate_left
  · have HA0 := Lib.hid (show A = false from by rw [HA.out]; exact atB_no (fun h => hk h.2))
    go_wp2_with fail
    all_goals first
      | (exfalso; omega)
      | (go_ret2
         exact ⟨ret_at (by rw [HV.out, HA0.out]; rfl) HA0.out.symm, HF1.out⟩)
  have HK := Lib.hid hk; obtain ⟨g0, g1, g2, g3⟩ := hk; have HAD := Lib.hid (show Tt.atD t k d = t.first + 7 * (k - 1) + d from rfl)
  have HA1 := Lib.hid (show A = !decide (t.first + 7 * (k - 1) + d ∈ t.hols) from by rw [HA.out]; exact atB_of (HT.out.symm.trans HT0.out) HK.out)
  clear l1; go_wp2_with fail
  refine (HC2.out _ _ HB1.out).mono ?_
  rintro e w2 ⟨rfl, hb2⟩; have HF2 := Lib.hid (HF1.out.trans (hb2.mono HF1.out.size))
  clear hb2 c0 c1 c2; obtain ⟨M, hM⟩ : ∃ M, M = decide (t.first + 7 * (k - 1) + d ∈ t.hols) := ⟨_, rfl⟩
  rw [← hM] at HA1 ⊢
  clear hM; cases M
  · go_wp2_with fail
    go_ret2
    exact ⟨ret_at (by rw [HV.out, HA1.out]; exact HAD.out.symm) (by rw [HA1.out]; rfl), HF2.out⟩
  · go_wp2_with fail
    go_ret2
    exact ⟨ret_at (by rw [HV.out, HA1.out]; rfl) (by rw [HA1.out]; rfl), HF2.out⟩
set_option maxHeartbeats 4000000 in
set_option maxRecDepth 100000 in
theorem days73 (t : Tt.Trm) (x : Tt.Tim) (ao : Option Addr) (c : Nat) (B : Nat) (w : World) (hB : B ≤ w.heap.size) (hI : Ints B w ao t.hols) (hn : t.hols.length ≤ 4611686018427387903) (hx0 : 0 ≤ x.weeks) (hx1 : x.weeks < 4611686018427387904) : Calls Tryz.prog 73 #[trmVal t (.slice ao t.hols.length c), timVal x] w fun e w' => ∃ v, e = .returned v ∧ RowI w.heap.size w' v (Tt.daysK t x 20) ∧ Below w.heap.size w w' := by
  obtain ⟨i0, hi, hz0, hz1, hz2⟩ := info_parts infoInt
  obtain ⟨P, hP⟩ : ∃ P, P = w.heap.size := ⟨_, rfl⟩
  obtain ⟨Q, hQ⟩ : ∃ Q, Q = w.heap.size + 1 := ⟨_, rfl⟩
  obtain ⟨W, hW⟩ : ∃ W, W = (w.alloc (.cells #[.int .i64 t.first, .int .i64 t.weeks, .slice ao t.hols.length c] 93)).alloc (.cells #[.int .i64 x.weeks, .int .i64 x.day, .int .i64 x.start, .int .i64 x.len] 105) := ⟨_, rfl⟩
  have HBW := Lib.hid (show Below w.heap.size w W from by rw [hW]; exact (below_box w _).trans ((below_box _ _).mono (by simp)))
  have HPW := Lib.hid (show Blk P #[.int .i64 t.first, .int .i64 t.weeks, .slice ao t.hols.length c] 93 W from by rw [hW, hP]; exact (Blk.new w _ _).alloc _)
  have HQW := Lib.hid (show Blk Q #[.int .i64 x.weeks, .int .i64 x.day, .int .i64 x.start, .int .i64 x.len] 105 W from by rw [hW, hQ]; exact Blk.new' _ _ _ (by simp))
  have hWs : w.heap.size ≤ W.heap.size := HBW.out.size
  have hPl : P < W.heap.size := HPW.out.lt
  have hQl : Q < W.heap.size := HQW.out.lt
  have HIW := Lib.hid (show Ints B W ao t.hols from hI.below (HBW.out.mono hB))
  have hBW : B ≤ W.heap.size := Nat.le_trans hB HBW.out.size
  have HC := Lib.hid (show ∀ (k d : Int) X, Below W.heap.size W X → Calls Tryz.prog 144 #[.agg #[.int .i64 t.first, .int .i64 t.weeks, .slice ao t.hols.length c], .int .i64 k, .int .i64 d] X fun e w' => e = .returned (.tuple #[.int .i64 (if Tt.atB t k d = true then Tt.atD t k d else 0), .bool (Tt.atB t k d)]) ∧ Below X.heap.size X w' from fun k d X hX => at144 t ao c B k d X (Nat.le_trans hBW hX.size) (HIW.out.below (hX.mono hBW)) hn)
  have HBN := Lib.hid (fun k : Int => bit_not x.weeks k hx0 hx1)
  unfold trmVal timVal
  clear hI hB hBW hn; go_enter Tryz.func73, Tryz.ntmps73
  go_upto_region 1 with (fail)
  rw [← hW, ← hQ, ← hP]; clear hW hP hQ; go_wp2_with fail
  go_loopw [5, 9] (fun rv iv wr => ∃ k : Nat, k ≤ 20 ∧ iv = .int .i64 k ∧ Hid (RowI W.heap.size wr rv (Tt.daysK t x k)) ∧ Hid (Below W.heap.size W wr)) (fun _ iv _ => 30 - (intOf iv).toNat)
  case atStart => exact ⟨0, by omega, rfl, Lib.hid (RowI.nil _ _), Lib.hid (Below.refl _ _)⟩
  case round =>
    obtain ⟨k, hk, rfl, HR, HB⟩ := hrel; by_cases hlt : k < 20
    rotate_left
    · have hki : ¬ ((k : Int) < 20) := by omega
      obtain rfl : k = 20 := by omega
      go_wp2_with fail
      go_ret; exact ⟨_, rfl, ownsRow_mono HR.out HBW.out.size, HBW.out.trans (HB.out.mono HBW.out.size)⟩
    have hki : (k : Int) < 20 := by omega
    have hk0 : (0 : Int) ≤ (k : Int) := by omega
    have hk20 : (k : Int) < 20 := by omega
    have q0 : wr.cell? ⟨Q, 0, none⟩ = some (.int .i64 x.weeks) := (HQW.out.below HB.out HQW.out.lt).cell 0
    have q1 : wr.cell? ⟨Q, 1, none⟩ = some (.int .i64 x.day) := (HQW.out.below HB.out HQW.out.lt).cell 1
    have q2 : wr.cell? ⟨Q, 2, none⟩ = some (.int .i64 x.start) := (HQW.out.below HB.out HQW.out.lt).cell 2
    have q3 : wr.cell? ⟨Q, 3, none⟩ = some (.int .i64 x.len) := (HQW.out.below HB.out HQW.out.lt).cell 3
    have c0 : wr.cell? ⟨P, 0, none⟩ = some (.int .i64 t.first) := (HPW.out.below HB.out HPW.out.lt).cell 0
    have c1 : wr.cell? ⟨P, 1, none⟩ = some (.int .i64 t.weeks) := (HPW.out.below HB.out HPW.out.lt).cell 1
    have c2 : wr.cell? ⟨P, 2, none⟩ = some (.slice ao t.hols.length c) := (HPW.out.below HB.out HPW.out.lt).cell 2
    have hxn : ¬ x.weeks < 0 := by omega
    have hbn := HBN.out (k : Int)
    rw [show ((k : Int)).toNat = k from Int.toNat_natCast k] at hbn
    obtain ⟨b, hb⟩ : ∃ b, b = Tt.bit x.weeks (k : Int) := ⟨_, rfl⟩
    rw [← hb] at hbn
    have HBT := Lib.hid hb; clear hb; cases b
    · have hbn : (bits .and .i64 (x.weeks / 2 ^ k) 1 == 0) = true := hbn
      have HK := Lib.hid (show Tt.daysK t x (k + 1) = Tt.daysK t x k from by rw [Tt.daysK, if_neg (fun h => by rw [← HBT.out] at h; cases h.1)])
      go_wp2_with fail
      go_roundw
      case rel => exact ⟨k + 1, by omega, by go_num, Lib.hid (by rw [HK.out]; exact HR.out), HB⟩
      case measure => simp [intOf]; omega
    · have hbn : (bits .and .i64 (x.weeks / 2 ^ k) 1 == 0) = false := hbn
      go_wp2_with fail
      refine (HC.out ((k : Int) + 1) x.day _ HB.out).mono ?_
      rintro e w1 ⟨rfl, hb1⟩; have HB1 := Lib.hid (HB.out.trans (hb1.mono HB.out.size))
      have HR1 := Lib.hid (ownsRow_below HR.out hb1)
      clear hb1 HB HR q0 q1 q2 q3 c0 c1 c2; obtain ⟨A, hA⟩ : ∃ A, A = Tt.atB t ((k : Int) + 1) x.day := ⟨_, rfl⟩
      rw [← hA]; have HA := Lib.hid hA; clear hA; cases A
      · have HK := Lib.hid (show Tt.daysK t x (k + 1) = Tt.daysK t x k from by rw [Tt.daysK, if_neg (fun h => by rw [← HA.out] at h; cases h.2)])
        go_wp2_with fail
        go_roundw
        case rel => exact ⟨k + 1, by omega, by go_num, Lib.hid (by rw [HK.out]; exact HR1.out), HB1⟩
        case measure => simp [intOf]; omega
      · have HK := Lib.hid (show Tt.daysK t x (k + 1) = Tt.daysK t x k ++ [Tt.atD t ((k : Int) + 1) x.day] from by rw [Tt.daysK, if_pos ⟨HBT.out.symm, HA.out.symm⟩])
        have hdl := Tt.daysK_len t x k; have hw1s : W.heap.size ≤ w1.heap.size := HB1.out.size
        obtain ⟨D, hD⟩ : ∃ D, D = Tt.atD t ((k : Int) + 1) x.day := ⟨_, rfl⟩
        obtain ⟨L, hL⟩ : ∃ L, L = Tt.daysK t x k := ⟨_, rfl⟩
        rw [← hD, ← hL] at HK
        rw [← hL] at HR1 hdl
        rw [if_pos rfl, ← hD]
        clear hD hL; obtain ⟨pr, cr, hv⟩ := RowI.slice HR1.out
        subst hv; go_wp2_with (at_builtin; refine wpList_append_own_at _ rfl (.tmp 33) (.tmp 35) 27 rfl W.heap.size 3 i0 (.int .i64 0) 1 8 Tryz.underlying27 hi hz0 hz1 hz2 rfl (by decide) _ _ _ rfl (World.ownsRow.alloc HR1.out _) ⟨w1.heap.size, 0, none⟩ 1 1 [.int .i64 D] rfl rfl (cell_one _ _ _) (by intro u hu; simp at hu; subst hu; rfl) (by unfold maxLen; omega) (by omega) (by simp; omega) ?_)
        intro v' x8 hown8 hgrow _ hat; have HB8 := Lib.hid (below_grownBy (HB1.out.trans ((below_box w1 _).mono HB1.out.size)) (World.ownsRow.alloc HR1.out _) (Nat.le_refl _) (by simp; omega) hgrow)
        have HR8 := Lib.hid (show RowI W.heap.size x8 v' (Tt.daysK t x (k + 1)) from by rw [HK.out]; exact RowI.snoc hown8)
        clear hgrow hown8 hat; go_wp2_with fail
        go_roundw
        case rel => exact ⟨k + 1, by omega, by go_num, HR8, HB8⟩
        case measure => simp [intOf]; omega
set_option maxHeartbeats 4000000 in
set_option maxRecDepth 100000 in
theorem days140 (t : Tt.Trm) (x : Tt.Tim) (ao : Option Addr) (c : Nat) (B : Nat) (w : World) (hB : B ≤ w.heap.size) (hI : Ints B w ao t.hols) (hn : t.hols.length ≤ 4611686018427387903) (hx0 : 0 ≤ x.weeks) (hx1 : x.weeks < 4611686018427387904) : Calls Tryz.prog 140 #[trmVal t (.slice ao t.hols.length c), timVal x] w fun e w' => ∃ v, e = .returned v ∧ RowI w.heap.size w' v (Tt.daysK t x 20) ∧ Below w.heap.size w w' := by
  obtain ⟨i0, hi, hz0, hz1, hz2⟩ := info_parts infoInt
  obtain ⟨P, hP⟩ : ∃ P, P = w.heap.size := ⟨_, rfl⟩
  obtain ⟨Q, hQ⟩ : ∃ Q, Q = w.heap.size + 1 := ⟨_, rfl⟩
  obtain ⟨W, hW⟩ : ∃ W, W = (w.alloc (.cells #[.int .i64 t.first, .int .i64 t.weeks, .slice ao t.hols.length c] 93)).alloc (.cells #[.int .i64 x.weeks, .int .i64 x.day, .int .i64 x.start, .int .i64 x.len] 105) := ⟨_, rfl⟩
  have HBW := Lib.hid (show Below w.heap.size w W from by rw [hW]; exact (below_box w _).trans ((below_box _ _).mono (by simp)))
  have HPW := Lib.hid (show Blk P #[.int .i64 t.first, .int .i64 t.weeks, .slice ao t.hols.length c] 93 W from by rw [hW, hP]; exact (Blk.new w _ _).alloc _)
  have HQW := Lib.hid (show Blk Q #[.int .i64 x.weeks, .int .i64 x.day, .int .i64 x.start, .int .i64 x.len] 105 W from by rw [hW, hQ]; exact Blk.new' _ _ _ (by simp))
  have hWs : w.heap.size ≤ W.heap.size := HBW.out.size
  have hPl : P < W.heap.size := HPW.out.lt
  have hQl : Q < W.heap.size := HQW.out.lt
  have HIW := Lib.hid (show Ints B W ao t.hols from hI.below (HBW.out.mono hB))
  have hBW : B ≤ W.heap.size := Nat.le_trans hB HBW.out.size
  have HC := Lib.hid (show ∀ (k d : Int) X, Below W.heap.size W X → Calls Tryz.prog 214 #[.agg #[.int .i64 t.first, .int .i64 t.weeks, .slice ao t.hols.length c], .int .i64 k, .int .i64 d] X fun e w' => e = .returned (.tuple #[.int .i64 (if Tt.atB t k d = true then Tt.atD t k d else 0), .bool (Tt.atB t k d)]) ∧ Below X.heap.size X w' from fun k d X hX => at214 t ao c B k d X (Nat.le_trans hBW hX.size) (HIW.out.below (hX.mono hBW)) hn)
  have HBN := Lib.hid (fun k : Int => bit_is x.weeks k hx0 hx1)
  unfold trmVal timVal
  clear hI hB hBW hn; go_enter Tryz.func140, Tryz.ntmps140
  go_upto_region 1 with (fail)
  rw [← hW, ← hQ, ← hP]; clear hW hP hQ; have q0 : W.cell? ⟨Q, 0, none⟩ = some (.int .i64 x.weeks) := (HQW.out.below (Below.refl W.heap.size W) HQW.out.lt).cell 0
  have q1 : W.cell? ⟨Q, 1, none⟩ = some (.int .i64 x.day) := (HQW.out.below (Below.refl W.heap.size W) HQW.out.lt).cell 1
  have q2 : W.cell? ⟨Q, 2, none⟩ = some (.int .i64 x.start) := (HQW.out.below (Below.refl W.heap.size W) HQW.out.lt).cell 2
  have q3 : W.cell? ⟨Q, 3, none⟩ = some (.int .i64 x.len) := (HQW.out.below (Below.refl W.heap.size W) HQW.out.lt).cell 3
  go_wp2_with fail
  clear q0 q1 q2 q3; go_loopw [5, 6] (fun rv iv wr => ∃ k : Nat, k ≤ 20 ∧ iv = .int .i64 ((k : Int) + 1) ∧ Hid (RowI W.heap.size wr rv (Tt.daysK t x k)) ∧ Hid (Below W.heap.size W wr)) (fun _ iv _ => 30 - (intOf iv).toNat)
  case atStart => exact ⟨0, by omega, rfl, Lib.hid (RowI.nil _ _), Lib.hid (Below.refl _ _)⟩
  case round =>
    obtain ⟨k, hk, rfl, HR, HB⟩ := hrel; by_cases hlt : k < 20
    rotate_left
    · have hki : ¬ ((k : Int) + 1 ≤ 20) := by omega
      obtain rfl : k = 20 := by omega
      go_wp2_with fail
      go_ret; exact ⟨_, rfl, ownsRow_mono HR.out HBW.out.size, HBW.out.trans (HB.out.mono HBW.out.size)⟩
    have hki : (k : Int) + 1 ≤ 20 := by omega
    have hk0 : (0 : Int) ≤ (k : Int) := by omega
    have hk20 : (k : Int) < 20 := by omega
    have q0 : wr.cell? ⟨Q, 0, none⟩ = some (.int .i64 x.weeks) := (HQW.out.below HB.out HQW.out.lt).cell 0
    have q1 : wr.cell? ⟨Q, 1, none⟩ = some (.int .i64 x.day) := (HQW.out.below HB.out HQW.out.lt).cell 1
    have q2 : wr.cell? ⟨Q, 2, none⟩ = some (.int .i64 x.start) := (HQW.out.below HB.out HQW.out.lt).cell 2
    have q3 : wr.cell? ⟨Q, 3, none⟩ = some (.int .i64 x.len) := (HQW.out.below HB.out HQW.out.lt).cell 3
    have c0 : wr.cell? ⟨P, 0, none⟩ = some (.int .i64 t.first) := (HPW.out.below HB.out HPW.out.lt).cell 0
    have c1 : wr.cell? ⟨P, 1, none⟩ = some (.int .i64 t.weeks) := (HPW.out.below HB.out HPW.out.lt).cell 1
    have c2 : wr.cell? ⟨P, 2, none⟩ = some (.slice ao t.hols.length c) := (HPW.out.below HB.out HPW.out.lt).cell 2
    have hxn : ¬ x.weeks < 0 := by omega
    have hbn := HBN.out (k : Int)
    rw [show ((k : Int)).toNat = k from Int.toNat_natCast k] at hbn
    obtain ⟨b, hb⟩ : ∃ b, b = Tt.bit x.weeks (k : Int) := ⟨_, rfl⟩
    rw [← hb] at hbn
    have HBT := Lib.hid hb; clear hb; cases b
    · have hbn : (bits .and .i64 (x.weeks / 2 ^ k) 1 == 1) = false := hbn
      have HK := Lib.hid (show Tt.daysK t x (k + 1) = Tt.daysK t x k from by rw [Tt.daysK, if_neg (fun h => by rw [← HBT.out] at h; cases h.1)])
      go_wp2_with fail
      go_roundw
      case rel => exact ⟨k + 1, by omega, by go_num, Lib.hid (by rw [HK.out]; exact HR.out), HB⟩
      case measure => simp [intOf]; omega
    · have hbn : (bits .and .i64 (x.weeks / 2 ^ k) 1 == 1) = true := hbn
      go_wp2_with fail
      refine (HC.out ((k : Int) + 1) x.day _ HB.out).mono ?_
      rintro e w1 ⟨rfl, hb1⟩; have HB1 := Lib.hid (HB.out.trans (hb1.mono HB.out.size))
      have HR1 := Lib.hid (ownsRow_below HR.out hb1)
      clear hb1 HB HR q0 q1 q2 q3 c0 c1 c2; obtain ⟨A, hA⟩ : ∃ A, A = Tt.atB t ((k : Int) + 1) x.day := ⟨_, rfl⟩
      rw [← hA]; have HA := Lib.hid hA; clear hA; cases A
      · have HK := Lib.hid (show Tt.daysK t x (k + 1) = Tt.daysK t x k from by rw [Tt.daysK, if_neg (fun h => by rw [← HA.out] at h; cases h.2)])
        go_wp2_with fail
        go_roundw
        case rel => exact ⟨k + 1, by omega, by go_num, Lib.hid (by rw [HK.out]; exact HR1.out), HB1⟩
        case measure => simp [intOf]; omega
      · have HK := Lib.hid (show Tt.daysK t x (k + 1) = Tt.daysK t x k ++ [Tt.atD t ((k : Int) + 1) x.day] from by rw [Tt.daysK, if_pos ⟨HBT.out.symm, HA.out.symm⟩])
        have hdl := Tt.daysK_len t x k; have hw1s : W.heap.size ≤ w1.heap.size := HB1.out.size
        obtain ⟨D, hD⟩ : ∃ D, D = Tt.atD t ((k : Int) + 1) x.day := ⟨_, rfl⟩
        obtain ⟨L, hL⟩ : ∃ L, L = Tt.daysK t x k := ⟨_, rfl⟩
        rw [← hD, ← hL] at HK
        rw [← hL] at HR1 hdl
        rw [if_pos rfl, ← hD]
        clear hD hL; obtain ⟨pr, cr, hv⟩ := RowI.slice HR1.out
        subst hv; go_wp2_with (at_builtin; refine wpList_append_own_at _ rfl (.tmp 33) (.tmp 35) 27 rfl W.heap.size 3 i0 (.int .i64 0) 1 8 Tryz.underlying27 hi hz0 hz1 hz2 rfl (by decide) _ _ _ rfl (World.ownsRow.alloc HR1.out _) ⟨w1.heap.size, 0, none⟩ 1 1 [.int .i64 D] rfl rfl (cell_one _ _ _) (by intro u hu; simp at hu; subst hu; rfl) (by unfold maxLen; omega) (by omega) (by simp; omega) ?_)
        intro v' x8 hown8 hgrow _ hat; have HB8 := Lib.hid (below_grownBy (HB1.out.trans ((below_box w1 _).mono HB1.out.size)) (World.ownsRow.alloc HR1.out _) (Nat.le_refl _) (by simp; omega) hgrow)
        have HR8 := Lib.hid (show RowI W.heap.size x8 v' (Tt.daysK t x (k + 1)) from by rw [HK.out]; exact RowI.snoc hown8)
        clear hgrow hown8 hat; go_wp2_with fail
        go_roundw
        case rel => exact ⟨k + 1, by omega, by go_num, HR8, HB8⟩
        case measure => simp [intOf]; omega
end Go.Proofs.YtageielcdebjlaaGreatDoor
namespace Go.Proofs.YtageielcdebjlaaGreatDoor
open Go.RowKit Go.Maps

theorem keyI : Keyed Tryz.prog 3 := int_keyed Tryz.underlying3
theorem bool_inv {e : TypeId} (he : Tryz.prog.underlying e = some .bool) {v : Value} {z : DataW Unit × List MemPlace} (h : plainElem Tryz.prog e v = some z) : ∃ b, v = .bool b ∧ z = (.lit (.bool b), []) := by
  unfold plainElem at h
  rw [he] at h
  cases v <;> simp at h
  case bool b => exact ⟨b, rfl, h.symm⟩
/-- Block b is a map that holds the numbers xs. -/
def MapS (b : Nat) (xs : List Int) (w : World) : Prop := ∃ (D : DataW Unit), w.ownsMap Tryz.prog 3 (plainElem Tryz.prog 4) b xs.length D ∧ IsMap D ∧ ∀ x : Int, D.atKey (.int .i64 x) (.lit (.bool false)) = .lit (.bool (decide (x ∈ xs)))
theorem MapS.new (w : World) : MapS w.heap.size [] (w.alloc (.map #[] 0)) :=
  ⟨.map [], World.ownsMap_made _ _ _ _, isMap_empty, fun x => by rfl⟩
theorem MapS.lt {b : Nat} {xs : List Int} {w : World} (h : MapS b xs w) : b < w.heap.size := by obtain ⟨D, h1, _⟩ := h; exact h1.lt
theorem MapS.block {b : Nat} {xs : List Int} {w w' : World} (h : MapS b xs w) (hw : w'.heap[b]? = w.heap[b]?) : MapS b xs w' := by
  obtain ⟨D, ⟨es, clock, h1, h2, h3, h4⟩, h5, h6⟩ := h
  exact ⟨D, ⟨es, clock, hw.trans h1, h2, h3, h4⟩, h5, h6⟩
theorem wf_i64 {x : Int} (h0 : -9223372036854775808 ≤ x) (h1 : x ≤ 9223372036854775807) : (Lit.int .i64 x).wf = true := by
  simp [Lit.wf, IntKind.min, IntKind.max, IntKind.signed, IntKind.bits]; omega
theorem zeroB (w : World) : (zeroValue 4).run Tryz.prog w = .ok (.bool false) w := by kernel_rfl
theorem MapS.look {b : Nat} {xs : List Int} {w : World} (h : MapS b xs w) {t : TypeId} (ht : Tryz.prog.underlying t = some (.map 3 4)) (x : Int) (h0 : -9223372036854775808 ≤ x) (h1 : x ≤ 9223372036854775807) :
    (Instr.lookup t (.map (some b)) (.int .i64 x) false).run Tryz.prog w = .ok (.bool (decide (x ∈ xs))) w := by
  obtain ⟨D, hD, hm, hx⟩ := h; obtain ⟨v, ps, hrun, hv⟩ := hD.lookup keyI ht (zeroB w) (plainElem_bool Tryz.underlying4 false) (keyOf_int_mk Tryz.underlying3 (wf_i64 h0 h1))
  obtain ⟨c, rfl, hc⟩ := bool_inv Tryz.underlying4 hv
  rw [hx x] at hc
  simp only [Prod.mk.injEq, DataW.lit.injEq, Lit.bool.injEq] at hc
  rw [hrun, hc.1]
theorem MapS.put {b : Nat} {xs : List Int} {w' : World} (x : Int) {D : DataW Unit} (hm : IsMap D) (hx : ∀ x : Int, D.atKey (.int .i64 x) (.lit (.bool false)) = .lit (.bool (decide (x ∈ xs)))) (hw : w'.ownsMap Tryz.prog 3 (plainElem Tryz.prog 4) b (xs.length + 1) (D.put (.int .i64 x) (.lit (.bool true)))) : MapS b (xs ++ [x]) w' := by
  refine ⟨_, by rw [List.length_append]; exact hw, hm.put _ _, fun y => ?_⟩
  by_cases hy : y = x
  · subst hy; rw [atKey_put_same hm (by simp [WideAt.IsKeyLit])]
    simp
  · rw [atKey_put_other (by simp [hy]), hx y]
    simp [hy]
end Go.Proofs.YtageielcdebjlaaGreatDoor
namespace Tt
def mlen (y m : Int) : Int := if m = 2 then (if y % 4 = 0 then 29 else 28) else if m = 4 ∨ m = 6 ∨ m = 9 ∨ m = 11 then 30 else 31
def ylen (y : Int) : Int := if y % 4 = 0 then 366 else 365
/-- The days ahead of the year 2000 + k. -/
def yb : Nat → Int
  | 0 => 0
  | k + 1 => yb k + ylen (2000 + (k : Int))
/-- The days of a year ahead of its month k + 1. -/
def mb (y : Int) : Nat → Int
  | 0 => 0
  | k + 1 => mb y k + mlen y ((k : Int) + 1)
theorem yb_closed : ∀ k : Nat, yb k = 365 * (k : Int) + ((k : Int) + 3) / 4
  | 0 => by decide
  | k + 1 => by
    rw [yb, yb_closed k]
    unfold ylen
    split <;> omega
theorem ylen_bd (y : Int) : 365 ≤ ylen y ∧ ylen y ≤ 366 := by unfold ylen; split <;> omega
theorem mlen_bd (y m : Int) : 28 ≤ mlen y m ∧ mlen y m ≤ 31 := by unfold mlen; repeat' split <;> omega
theorem mb_bd (y : Int) : ∀ k : Nat, 0 ≤ mb y k ∧ mb y k ≤ 31 * (k : Int)
  | 0 => by unfold mb; omega
  | k + 1 => by have := mb_bd y k; have := mlen_bd y ((k : Int) + 1); unfold mb; omega
/-- The days ahead of each month, in closed form. -/
theorem mb_all (y : Int) : mb y 0 = 0 ∧ mb y 1 = 31 ∧ mb y 2 = 59 + (ylen y - 365) ∧ mb y 3 = 90 + (ylen y - 365) ∧ mb y 4 = 120 + (ylen y - 365) ∧ mb y 5 = 151 + (ylen y - 365) ∧ mb y 6 = 181 + (ylen y - 365) ∧ mb y 7 = 212 + (ylen y - 365) ∧ mb y 8 = 243 + (ylen y - 365) ∧ mb y 9 = 273 + (ylen y - 365) ∧ mb y 10 = 304 + (ylen y - 365) ∧ mb y 11 = 334 + (ylen y - 365) ∧ mb y 12 = ylen y := by
  unfold ylen
  by_cases h : y % 4 = 0
  · simp [mb, mlen, h]
  · simp [mb, mlen, h]
/-- A date and its day. -/
structure IsDate (day y m d : Int) : Prop where
  y0 : 2000 ≤ y
  y1 : y ≤ 2099
  m0 : 1 ≤ m
  m1 : m ≤ 12
  d0 : 1 ≤ d
  d1 : d ≤ mlen y m
  is : day = yb (y - 2000).toNat + mb y (m - 1).toNat + d - 1

def yOf (day : Int) : Int := 2000 + 4 * day / 1461
def rOf (day : Int) : Int := day - yb (4 * day / 1461).toNat
def mGo (l r : Int) : Int := if r < 31 then 1 else if r < 59 + l then 2 else if r < 90 + l then 3 else if r < 120 + l then 4 else if r < 151 + l then 5 else if r < 181 + l then 6 else if r < 212 + l then 7 else if r < 243 + l then 8 else if r < 273 + l then 9 else if r < 304 + l then 10 else if r < 334 + l then 11 else 12
def mOf (day : Int) : Int := mGo (ylen (yOf day) - 365) (rOf day)
def dOf (day : Int) : Int := rOf day - mb (yOf day) (mOf day - 1).toNat + 1
theorem IsDate.year {day y m d : Int} (h : IsDate day y m d) : y = yOf day ∧ rOf day = mb y (m - 1).toNat + d - 1 := by
  obtain ⟨y0, y1, m0, m1, d0, d1, hd⟩ := h; have hk := yb_closed (y - 2000).toNat
  have hy : ((y - 2000).toNat : Int) = y - 2000 := by omega
  rw [hy] at hk
  have hm := mb_all y; have hle : 0 ≤ mb y (m - 1).toNat + d - 1 ∧ mb y (m - 1).toNat + d - 1 < ylen y := by
    have hb := mb_bd y (m - 1).toNat
    refine ⟨by omega, ?_⟩
    have hs : mb y (m - 1).toNat + mlen y m ≤ mb y 12 := by
      have e : mb y (m - 1).toNat + mlen y m = mb y ((m - 1).toNat + 1) := by
        rw [mb, show (((m - 1).toNat : Nat) : Int) + 1 = m by omega]
      rw [e, show (m - 1).toNat + 1 = m.toNat by omega]
      obtain ⟨h0, h1, h2, h3, h4, h5, h6, h7, h8, h9, h10, h11, h12⟩ := hm; have := ylen_bd y
      rcases (show m = 1 ∨ m = 2 ∨ m = 3 ∨ m = 4 ∨ m = 5 ∨ m = 6 ∨ m = 7 ∨ m = 8 ∨ m = 9 ∨ m = 10 ∨ m = 11 ∨ m = 12 by omega) with rfl | rfl | rfl | rfl | rfl | rfl | rfl | rfl | rfl | rfl | rfl | rfl
      all_goals (first | (show mb y 1 ≤ mb y 12; omega) | (show mb y 2 ≤ mb y 12; omega) | (show mb y 3 ≤ mb y 12; omega) | (show mb y 4 ≤ mb y 12; omega) | (show mb y 5 ≤ mb y 12; omega) | (show mb y 6 ≤ mb y 12; omega) | (show mb y 7 ≤ mb y 12; omega) | (show mb y 8 ≤ mb y 12; omega) | (show mb y 9 ≤ mb y 12; omega) | (show mb y 10 ≤ mb y 12; omega) | (show mb y 11 ≤ mb y 12; omega) | exact Int.le_refl _)
    rw [hm.2.2.2.2.2.2.2.2.2.2.2.2] at hs
    omega
  have hyl : ylen y = if y % 4 = 0 then 366 else 365 := rfl
  have hq : 4 * day / 1461 = y - 2000 := by
    rw [hyl] at hle
    split at hle <;> omega
  refine ⟨by unfold yOf; omega, ?_⟩
  unfold rOf
  rw [hq]
  omega
theorem mlens (y : Int) : mlen y 1 = 31 ∧ mlen y 2 = ylen y - 337 ∧ mlen y 3 = 31 ∧ mlen y 4 = 30 ∧ mlen y 5 = 31 ∧ mlen y 6 = 30 ∧ mlen y 7 = 31 ∧ mlen y 8 = 31 ∧ mlen y 9 = 30 ∧ mlen y 10 = 31 ∧ mlen y 11 = 30 ∧ mlen y 12 = 31 := by
  refine ⟨rfl, ?_, rfl, rfl, rfl, rfl, rfl, rfl, rfl, rfl, rfl, rfl⟩
  unfold mlen ylen
  rw [if_pos rfl]
  split <;> rfl
theorem mGo_of {y m d : Int} (m0 : 1 ≤ m) (m1 : m ≤ 12) (d0 : 1 ≤ d) (d1 : d ≤ mlen y m) : m = mGo (ylen y - 365) (mb y (m - 1).toNat + d - 1) := by
  obtain ⟨h0, h1, h2, h3, h4, h5, h6, h7, h8, h9, h10, h11, -⟩ := mb_all y
  have hle := ylen_bd y; obtain ⟨l1, l2, l3, l4, l5, l6, l7, l8, l9, l10, l11, l12⟩ := mlens y
  generalize ylen y = n at *
  rcases (show m = 1 ∨ m = 2 ∨ m = 3 ∨ m = 4 ∨ m = 5 ∨ m = 6 ∨ m = 7 ∨ m = 8 ∨ m = 9 ∨ m = 10 ∨ m = 11 ∨ m = 12 by omega) with rfl | rfl | rfl | rfl | rfl | rfl | rfl | rfl | rfl | rfl | rfl | rfl
  · rw [l1] at d1
    show 1 = mGo _ (mb y 0 + d - 1)
    rw [h0]
    clear h0 h1 h2 h3 h4 h5 h6 h7 h8 h9 h10 h11 l1 l2 l3 l4 l5 l6 l7 l8 l9 l10 l11 l12; unfold mGo
    rw [if_pos (by omega)]
  · rw [l2] at d1
    show 2 = mGo _ (mb y 1 + d - 1)
    rw [h1]
    clear h0 h1 h2 h3 h4 h5 h6 h7 h8 h9 h10 h11 l1 l2 l3 l4 l5 l6 l7 l8 l9 l10 l11 l12; unfold mGo
    rw [if_neg (by omega), if_pos (by omega)]
  · rw [l3] at d1
    show 3 = mGo _ (mb y 2 + d - 1)
    rw [h2]
    clear h0 h1 h2 h3 h4 h5 h6 h7 h8 h9 h10 h11 l1 l2 l3 l4 l5 l6 l7 l8 l9 l10 l11 l12; unfold mGo
    rw [if_neg (by omega), if_neg (by omega), if_pos (by omega)]
  · rw [l4] at d1
    show 4 = mGo _ (mb y 3 + d - 1)
    rw [h3]
    clear h0 h1 h2 h3 h4 h5 h6 h7 h8 h9 h10 h11 l1 l2 l3 l4 l5 l6 l7 l8 l9 l10 l11 l12; unfold mGo
    rw [if_neg (by omega), if_neg (by omega), if_neg (by omega), if_pos (by omega)]
  · rw [l5] at d1
    show 5 = mGo _ (mb y 4 + d - 1)
    rw [h4]
    clear h0 h1 h2 h3 h4 h5 h6 h7 h8 h9 h10 h11 l1 l2 l3 l4 l5 l6 l7 l8 l9 l10 l11 l12; unfold mGo
    rw [if_neg (by omega), if_neg (by omega), if_neg (by omega), if_neg (by omega), if_pos (by omega)]
  · rw [l6] at d1
    show 6 = mGo _ (mb y 5 + d - 1)
    rw [h5]
    clear h0 h1 h2 h3 h4 h5 h6 h7 h8 h9 h10 h11 l1 l2 l3 l4 l5 l6 l7 l8 l9 l10 l11 l12; unfold mGo
    rw [if_neg (by omega), if_neg (by omega), if_neg (by omega), if_neg (by omega), if_neg (by omega), if_pos (by omega)]
  · rw [l7] at d1
    show 7 = mGo _ (mb y 6 + d - 1)
    rw [h6]
    clear h0 h1 h2 h3 h4 h5 h6 h7 h8 h9 h10 h11 l1 l2 l3 l4 l5 l6 l7 l8 l9 l10 l11 l12; unfold mGo
    rw [if_neg (by omega), if_neg (by omega), if_neg (by omega), if_neg (by omega), if_neg (by omega), if_neg (by omega), if_pos (by omega)]
  · rw [l8] at d1
    show 8 = mGo _ (mb y 7 + d - 1)
    rw [h7]
    clear h0 h1 h2 h3 h4 h5 h6 h7 h8 h9 h10 h11 l1 l2 l3 l4 l5 l6 l7 l8 l9 l10 l11 l12; unfold mGo
    rw [if_neg (by omega), if_neg (by omega), if_neg (by omega), if_neg (by omega), if_neg (by omega), if_neg (by omega), if_neg (by omega), if_pos (by omega)]
  · rw [l9] at d1
    show 9 = mGo _ (mb y 8 + d - 1)
    rw [h8]
    clear h0 h1 h2 h3 h4 h5 h6 h7 h8 h9 h10 h11 l1 l2 l3 l4 l5 l6 l7 l8 l9 l10 l11 l12; unfold mGo
    rw [if_neg (by omega), if_neg (by omega), if_neg (by omega), if_neg (by omega), if_neg (by omega), if_neg (by omega), if_neg (by omega), if_neg (by omega), if_pos (by omega)]
  · rw [l10] at d1
    show 10 = mGo _ (mb y 9 + d - 1)
    rw [h9]
    clear h0 h1 h2 h3 h4 h5 h6 h7 h8 h9 h10 h11 l1 l2 l3 l4 l5 l6 l7 l8 l9 l10 l11 l12; unfold mGo
    rw [if_neg (by omega), if_neg (by omega), if_neg (by omega), if_neg (by omega), if_neg (by omega), if_neg (by omega), if_neg (by omega), if_neg (by omega), if_neg (by omega), if_pos (by omega)]
  · rw [l11] at d1
    show 11 = mGo _ (mb y 10 + d - 1)
    rw [h10]
    clear h0 h1 h2 h3 h4 h5 h6 h7 h8 h9 h10 h11 l1 l2 l3 l4 l5 l6 l7 l8 l9 l10 l11 l12; unfold mGo
    rw [if_neg (by omega), if_neg (by omega), if_neg (by omega), if_neg (by omega), if_neg (by omega), if_neg (by omega), if_neg (by omega), if_neg (by omega), if_neg (by omega), if_neg (by omega), if_pos (by omega)]
  · rw [l12] at d1
    show 12 = mGo _ (mb y 11 + d - 1)
    rw [h11]
    clear h0 h1 h2 h3 h4 h5 h6 h7 h8 h9 h10 h11 l1 l2 l3 l4 l5 l6 l7 l8 l9 l10 l11 l12; unfold mGo
    rw [if_neg (by omega), if_neg (by omega), if_neg (by omega), if_neg (by omega), if_neg (by omega), if_neg (by omega), if_neg (by omega), if_neg (by omega), if_neg (by omega), if_neg (by omega), if_neg (by omega)]
/-- The date of a day is one. -/
theorem IsDate.of {day y m d : Int} (h : IsDate day y m d) : y = yOf day ∧ m = mOf day ∧ d = dOf day := by
  obtain ⟨hy, hr⟩ := h.year
  have hm : m = mOf day := by
    unfold mOf
    rw [hr, ← hy]
    exact mGo_of h.m0 h.m1 h.d0 h.d1
  refine ⟨hy, hm, ?_⟩
  unfold dOf
  rw [← hm, ← hy, hr]; omega
/-- The day of a date, or the error. -/
def dayV (y m d : Int) : Int × Int := if y < 2000 ∨ 2099 < y ∨ m < 1 ∨ 12 < m ∨ d < 1 ∨ mlen y m < d then (0, 13) else (yb (y - 2000).toNat + mb y (m - 1).toNat + d - 1, 0)
theorem IsDate.day {day y m d : Int} (h : IsDate day y m d) : dayV y m d = (day, 0) := by
  obtain ⟨y0, y1, m0, m1, d0, d1, hd⟩ := h; unfold dayV
  rw [if_neg (by omega), ← hd]
end Tt
namespace Go.Proofs.YtageielcdebjlaaGreatDoor
open Go.RowKit

/-- The package's table of lengths as it is laid. -/
def Lens (w : World) : Prop := ∀ i : Nat, i < 12 → w.cell? ⟨3, i, none⟩ = some (.int .i64 (([31, 28, 31, 30, 31, 30, 31, 31, 30, 31, 30, 31] : List Int).getD i 0))
theorem Lens.below {B : Nat} {w w' : World} (h : Lens w) (hB : 3 < B) (hb : Below B w w') : Lens w' := fun i hi => (hb.cell (p := ⟨3, i, none⟩) hB).trans (h i hi)

-- Day
end Go.Proofs.YtageielcdebjlaaGreatDoor
