/- Grids and times of a week: timegrid.Valid, Sound, Week, Fits, weekset.Valid, and the reference's. Terms: calendar.Valid, At, Days, and the reference's. -/
import Derived.Test.YtcomifbfldoeiaaGreatDoorDaysAll
import Derived.Test.YtcomifbfldoeiaaGreatDoorPk10
import Derived.BigQuiet
namespace Tt
structure Grd where
  days : Int
  slots : Int
  begin_ : Int
  mins : Int
structure Tim where
  weeks : Int
  day : Int
  start : Int
  len : Int
/-- The error of a grid. -/
def gridV (g : Grd) : Int := if g.days < 1 ∨ 7 < g.days ∨ g.slots < 1 ∨ 24 < g.slots ∨ g.begin_ < 0 ∨ 1440 ≤ g.begin_ ∨ g.mins < 5 ∨ 120 < g.mins ∨ 1440 < g.begin_ + g.slots * g.mins then 3 else 0
/-- Is a number a set of weeks? -/
def weeksB (set n : Int) : Bool := decide (1 ≤ n ∧ n ≤ 20 ∧ 1 ≤ set ∧ set < ((2 ^ n.toNat : Nat) : Int))
/-- Is a time sound? -/
def soundB (t : Tim) : Bool := weeksB t.weeks 20 && decide (0 ≤ t.day ∧ t.day < 7 ∧ 0 ≤ t.start ∧ t.start < 24 ∧ 1 ≤ t.len ∧ t.start + t.len ≤ 24)
/-- The error of a time in a grid. -/
def fitsV (g : Grd) (weeks : Int) (t : Tim) : Int := if gridV g = 0 ∧ 1 ≤ weeks ∧ weeks ≤ 20 then (if soundB t = true ∧ weeksB t.weeks weeks = true ∧ t.day < g.days ∧ t.start + t.len ≤ g.slots then 0 else 14) else 1
theorem mul_small {s m : Int} (h0 : 1 ≤ s) (h1 : s ≤ 24) (h2 : 5 ≤ m) (h3 : m ≤ 120) : 0 ≤ s * m ∧ s * m ≤ 2880 := by
  constructor
  · exact Int.mul_nonneg (by omega) (by omega)
  · calc s * m ≤ 24 * m := Int.mul_le_mul_of_nonneg_right h1 (by omega)
      _ ≤ 24 * 120 := Int.mul_le_mul_of_nonneg_left h3 (by omega)
theorem soundB_iff (t : Tim) : soundB t = true ↔ weeksB t.weeks 20 = true ∧ 0 ≤ t.day ∧ t.day < 7 ∧ 0 ≤ t.start ∧ t.start < 24 ∧ 1 ≤ t.len ∧ t.start + t.len ≤ 24 := by
  unfold soundB; simp
end Tt
namespace Go.Proofs.YtcomifbfldoeiaaGreatDoor
open Go.RowKit

def grdVal (g : Tt.Grd) : Value := .agg #[.int .i64 g.days, .int .i64 g.slots, .int .i64 g.begin_, .int .i64 g.mins]
def timVal (t : Tt.Tim) : Value := .agg #[.int .i64 t.weeks, .int .i64 t.day, .int .i64 t.start, .int .i64 t.len]
set_option maxHeartbeats 4000000 in
set_option maxRecDepth 100000 in
theorem grid124 (g : Tt.Grd) (w : World) : Calls Tryz.prog 78 #[grdVal g] w fun e w' => e = .returned (.int .i64 (Tt.gridV g)) ∧ Below w.heap.size w w' := by
  obtain ⟨d, s, b, m⟩ := g; obtain ⟨E, hE⟩ : ∃ E, E = Tt.gridV ⟨d, s, b, m⟩ := ⟨_, rfl⟩
  rw [← hE]; have HE := Lib.hid (show E = (if d < 1 ∨ 7 < d ∨ s < 1 ∨ 24 < s ∨ b < 0 ∨ 1440 ≤ b ∨ m < 5 ∨ 120 < m ∨ 1440 < b + s * m then 3 else 0) from hE)
  have HB := Lib.hid (below_box w (.cells #[.int .i64 d, .int .i64 s, .int .i64 b, .int .i64 m] 91))
  clear hE; unfold grdVal
  by_cases hr : 1 ≤ s ∧ s ≤ 24 ∧ 0 ≤ b ∧ b < 1440 ∧ 5 ≤ m ∧ m ≤ 120
  · obtain ⟨a0, a1, a2, a3, a4, a5⟩ := hr; obtain ⟨p0, p1⟩ := Tt.mul_small a0 a1 a4 a5
    obtain ⟨p, hp⟩ : ∃ p, p = s * m := ⟨_, rfl⟩
    have HP := Lib.hid hp; rw [← hp] at p0 p1
    have hw1 : wrap64 (s * m) = p := by rw [← hp]; unfold RowKit.wrap64; omega
    have hw2 : wrap64 (b + p) = b + p := by unfold RowKit.wrap64; omega
    clear hp; go_enter Tryz.func78, Tryz.ntmps78
    go_wp2_with fail
    all_goals
      go_ret; refine ⟨ret_int ?_, HB.out⟩
      rw [HE.out, ← HP.out]
      first | rw [if_pos (by omega)] | rw [if_neg (by omega)]
  · go_enter Tryz.func78, Tryz.ntmps78
    go_wp2_with fail
    all_goals first
      | (exfalso; omega)
      | (go_ret
         refine ⟨ret_int ?_, HB.out⟩
         rw [HE.out, if_pos (by omega)])
set_option maxHeartbeats 4000000 in
set_option maxRecDepth 100000 in
theorem weeks205 (set n : Int) (w : World) : Calls Tryz.prog 149 #[.int .i64 set, .int .i64 n] w fun e w' => e = .returned (.bool (Tt.weeksB set n)) ∧ w' = w := by
  obtain ⟨B, hB⟩ : ∃ B, B = Tt.weeksB set n := ⟨_, rfl⟩
  rw [← hB]; have HB := Lib.hid (show B = decide (1 ≤ n ∧ n ≤ 20 ∧ 1 ≤ set ∧ set < ((2 ^ n.toNat : Nat) : Int)) from hB)
  clear hB; by_cases hr : 1 ≤ n ∧ n ≤ 20
  · obtain ⟨a0, a1⟩ := hr; obtain ⟨k, rfl⟩ : ∃ k : Nat, n = k := ⟨n.toNat, by omega⟩
    obtain ⟨p, hp⟩ : ∃ p : Nat, p = 2 ^ k := ⟨_, rfl⟩
    have hp1 : p ≤ 1048576 := by rw [hp]; exact Nat.pow_le_pow_right (n := 2) (by decide) (show k ≤ 20 by omega)
    have HP := Lib.hid hp; have hk0 : ¬ ((k : Int) < 0) := by omega
    have hs1 : RowKit.wrap64 (2 ^ k) = (p : Int) := by rw [show ((2 : Int) ^ k) = ((2 ^ k : Nat) : Int) by simp, ← hp]; unfold RowKit.wrap64; omega
    clear hp; go_enter Tryz.func149, Tryz.ntmps149
    go_wp2_with fail
    all_goals
      go_ret; refine ⟨ret_bool ?_, rfl⟩
      rw [HB.out, Int.toNat_natCast, ← HP.out]
      first | exact decide_eq_decide.2 (by omega) | exact (decide_eq_false (by omega)).symm
  · go_enter Tryz.func149, Tryz.ntmps149
    go_wp2_with fail
    all_goals first
      | (exfalso; omega)
      | (go_ret
         refine ⟨ret_bool ?_, rfl⟩
         rw [HB.out]
         exact (decide_eq_false (fun h => hr ⟨h.1, h.2.1⟩)).symm)
set_option maxHeartbeats 4000000 in
set_option maxRecDepth 100000 in
theorem weeks213 (set n : Int) (w : World) : Calls Tryz.prog 154 #[.int .i64 set, .int .i64 n] w fun e w' => e = .returned (.bool (Tt.weeksB set n)) ∧ w' = w := by
  obtain ⟨B, hB⟩ : ∃ B, B = Tt.weeksB set n := ⟨_, rfl⟩
  rw [← hB]; have HB := Lib.hid (show B = decide (1 ≤ n ∧ n ≤ 20 ∧ 1 ≤ set ∧ set < ((2 ^ n.toNat : Nat) : Int)) from hB)
  clear hB; by_cases hr : 1 ≤ n ∧ n ≤ 20
  · obtain ⟨a0, a1⟩ := hr; obtain ⟨k, rfl⟩ : ∃ k : Nat, n = k := ⟨n.toNat, by omega⟩
    obtain ⟨p, hp⟩ : ∃ p : Nat, p = 2 ^ k := ⟨_, rfl⟩
    have hp1 : p ≤ 1048576 := by rw [hp]; exact Nat.pow_le_pow_right (n := 2) (by decide) (show k ≤ 20 by omega)
    have HP := Lib.hid hp; have hk0 : ¬ ((k : Int) < 0) := by omega
    have hs1 : RowKit.wrap64 (2 ^ k) = (p : Int) := by rw [show ((2 : Int) ^ k) = ((2 ^ k : Nat) : Int) by simp, ← hp]; unfold RowKit.wrap64; omega
    clear hp; go_enter Tryz.func154, Tryz.ntmps154
    go_wp2_with fail
    all_goals
      go_ret; refine ⟨ret_bool ?_, rfl⟩
      rw [HB.out, Int.toNat_natCast, ← HP.out]
      first | exact decide_eq_decide.2 (by omega) | exact (decide_eq_false (by omega)).symm
  · go_enter Tryz.func154, Tryz.ntmps154
    go_wp2_with fail
    all_goals first
      | (exfalso; omega)
      | (go_ret
         refine ⟨ret_bool ?_, rfl⟩
         rw [HB.out]
         exact (decide_eq_false (fun h => hr ⟨h.1, h.2.1⟩)).symm)
set_option maxHeartbeats 4000000 in
set_option maxRecDepth 100000 in
theorem week203 (g : Tt.Grd) (n : Int) (w : World) : Calls Tryz.prog 147 #[grdVal g, .int .i64 n] w fun e w' => e = .returned (.bool (decide (Tt.gridV g = 0 ∧ 1 ≤ n ∧ n ≤ 20))) ∧ Below w.heap.size w w' := by
  obtain ⟨E, hE⟩ : ∃ E, E = Tt.gridV g := ⟨_, rfl⟩
  rw [← hE]; obtain ⟨W, hW⟩ : ∃ W, W = w.alloc (.cells #[.int .i64 g.days, .int .i64 g.slots, .int .i64 g.begin_, .int .i64 g.mins] 91) := ⟨_, rfl⟩
  have HC := Lib.hid (show Calls Tryz.prog 78 #[.agg #[.int .i64 g.days, .int .i64 g.slots, .int .i64 g.begin_, .int .i64 g.mins]] W fun e w' => e = .returned (.int .i64 E) ∧ Below W.heap.size W w' from by rw [hE]; exact grid124 g W)
  have HB := Lib.hid (show Below w.heap.size w W from by rw [hW]; exact below_box w _)
  have hb : Blk w.heap.size #[.int .i64 g.days, .int .i64 g.slots, .int .i64 g.begin_, .int .i64 g.mins] 91 W := by rw [hW]; exact Blk.new w _ _
  have c0 : W.cell? ⟨w.heap.size, 0, none⟩ = some (.int .i64 g.days) := hb.cell 0
  have c1 : W.cell? ⟨w.heap.size, 1, none⟩ = some (.int .i64 g.slots) := hb.cell 1
  have c2 : W.cell? ⟨w.heap.size, 2, none⟩ = some (.int .i64 g.begin_) := hb.cell 2
  have c3 : W.cell? ⟨w.heap.size, 3, none⟩ = some (.int .i64 g.mins) := hb.cell 3
  unfold grdVal
  clear hE hb; go_enter Tryz.func147, Tryz.ntmps147
  go_upto_region 1 with (fail)
  rw [← hW]; clear hW; go_wp2_with fail
  refine HC.out.mono ?_
  rintro e w1 ⟨rfl, hb1⟩; have HL := Lib.hid (HB.out.trans (hb1.mono HB.out.size))
  clear hb1 HC HB c0 c1 c2 c3; by_cases h0 : E = 0
  · have h1 : (E == 0) = true := by simp [h0]
    go_wp2_with fail
    all_goals
      go_ret; refine ⟨ret_bool ?_, HL.out⟩
      first | exact (decide_eq_false (by omega)).symm | exact decide_eq_decide.2 (by omega) | (simp; omega)
  · have h1 : (E == 0) = false := by simp [h0]
    go_wp2_with fail
    all_goals
      go_ret; refine ⟨ret_bool ?_, HL.out⟩
      exact (decide_eq_false (fun h => h0 h.1)).symm
set_option maxHeartbeats 4000000 in
set_option maxRecDepth 100000 in
theorem sound204 (x : Tt.Tim) (w : World) : Calls Tryz.prog 148 #[timVal x] w fun e w' => e = .returned (.bool (Tt.soundB x)) ∧ Below w.heap.size w w' := by
  obtain ⟨k, d, s, l⟩ := x; obtain ⟨B, hB⟩ : ∃ B, B = Tt.soundB ⟨k, d, s, l⟩ := ⟨_, rfl⟩
  rw [← hB]; obtain ⟨C, hC⟩ : ∃ C, C = Tt.weeksB k 20 := ⟨_, rfl⟩
  have HB := Lib.hid (show B = (Tt.weeksB k 20 && decide (0 ≤ d ∧ d < 7 ∧ 0 ≤ s ∧ s < 24 ∧ 1 ≤ l ∧ s + l ≤ 24)) from hB)
  rw [← hC] at HB
  have HC := Lib.hid hC; have HW := Lib.hid (below_box w (.cells #[.int .i64 k, .int .i64 d, .int .i64 s, .int .i64 l] 108))
  clear hB hC; unfold timVal
  by_cases hr : 0 ≤ s ∧ s ≤ 24 ∧ 1 ≤ l ∧ l ≤ 24
  · obtain ⟨a0, a1, a2, a3⟩ := hr; have hw1 : wrap64 (24 - s) = 24 - s := by unfold RowKit.wrap64; omega
    have hw2 : wrap64 (s + l) = s + l := by unfold RowKit.wrap64; omega
    go_enter Tryz.func148, Tryz.ntmps148
    go_wp2_with fail
    all_goals
      refine (weeks205 _ _ _).mono ?_
      rintro e w1 ⟨rfl, hx⟩; rw [hx, ← HC.out]
      clear hx w1; cases C
    all_goals go_wp2_with fail
    all_goals
      go_ret; refine ⟨ret_bool ?_, HW.out⟩
      rw [HB.out]
      first | rfl | exact (decide_eq_false (by omega)).symm | exact (decide_eq_true (by omega)).symm | exact decide_eq_decide.2 (by omega)
  · go_enter Tryz.func148, Tryz.ntmps148
    go_wp2_with fail
    all_goals
      try (refine (weeks205 _ _ _).mono ?_
           rintro e w1 ⟨rfl, hx⟩; rw [hx, ← HC.out]
           clear hx w1; cases C)
    all_goals go_wp2_with fail
    all_goals first
      | (exfalso; omega)
      | (go_ret
         refine ⟨ret_bool ?_, HW.out⟩
         rw [HB.out]
         first | rfl | exact (decide_eq_false (by omega)).symm | exact decide_eq_decide.2 (by omega))
set_option maxHeartbeats 4000000 in
set_option maxRecDepth 100000 in
theorem sound212 (x : Tt.Tim) (w : World) : Calls Tryz.prog 153 #[timVal x] w fun e w' => e = .returned (.bool (Tt.soundB x)) ∧ Below w.heap.size w w' := by
  obtain ⟨k, d, s, l⟩ := x; obtain ⟨B, hB⟩ : ∃ B, B = Tt.soundB ⟨k, d, s, l⟩ := ⟨_, rfl⟩
  rw [← hB]; obtain ⟨C, hC⟩ : ∃ C, C = Tt.weeksB k 20 := ⟨_, rfl⟩
  have HB := Lib.hid (show B = (Tt.weeksB k 20 && decide (0 ≤ d ∧ d < 7 ∧ 0 ≤ s ∧ s < 24 ∧ 1 ≤ l ∧ s + l ≤ 24)) from hB)
  rw [← hC] at HB
  have HC := Lib.hid hC; have HW := Lib.hid (below_box w (.cells #[.int .i64 k, .int .i64 d, .int .i64 s, .int .i64 l] 108))
  clear hB hC; unfold timVal
  by_cases hr : 0 ≤ s ∧ s ≤ 24 ∧ 1 ≤ l ∧ l ≤ 24
  · obtain ⟨a0, a1, a2, a3⟩ := hr; have hw1 : wrap64 (24 - s) = 24 - s := by unfold RowKit.wrap64; omega
    have hw2 : wrap64 (s + l) = s + l := by unfold RowKit.wrap64; omega
    go_enter Tryz.func153, Tryz.ntmps153
    go_wp2_with fail
    all_goals
      refine (weeks213 _ _ _).mono ?_
      rintro e w1 ⟨rfl, hx⟩; rw [hx, ← HC.out]
      clear hx w1; cases C
    all_goals go_wp2_with fail
    all_goals
      go_ret; refine ⟨ret_bool ?_, HW.out⟩
      rw [HB.out]
      first | rfl | exact (decide_eq_false (by omega)).symm | exact (decide_eq_true (by omega)).symm | exact decide_eq_decide.2 (by omega)
  · go_enter Tryz.func153, Tryz.ntmps153
    go_wp2_with fail
    all_goals
      try (refine (weeks213 _ _ _).mono ?_
           rintro e w1 ⟨rfl, hx⟩; rw [hx, ← HC.out]
           clear hx w1; cases C)
    all_goals go_wp2_with fail
    all_goals first
      | (exfalso; omega)
      | (go_ret
         refine ⟨ret_bool ?_, HW.out⟩
         rw [HB.out]
         first | rfl | exact (decide_eq_false (by omega)).symm | exact decide_eq_decide.2 (by omega))
set_option maxHeartbeats 4000000 in
set_option maxRecDepth 100000 in
theorem fits134 (g : Tt.Grd) (n : Int) (x : Tt.Tim) (w : World) : Calls Tryz.prog 87 #[grdVal g, .int .i64 n, timVal x] w fun e w' => e = .returned (.int .i64 (Tt.fitsV g n x)) ∧ Below w.heap.size w w' := by
  obtain ⟨E, hE⟩ : ∃ E, E = Tt.fitsV g n x := ⟨_, rfl⟩
  rw [← hE]; have HE := Lib.hid (show E = (if Tt.gridV g = 0 ∧ 1 ≤ n ∧ n ≤ 20 then (if Tt.soundB x = true ∧ Tt.weeksB x.weeks n = true ∧ x.day < g.days ∧ x.start + x.len ≤ g.slots then 0 else 14) else 1) from hE)
  have HGR : Hid (Tt.gridV g = 0 → 1 ≤ g.slots ∧ g.slots ≤ 24 ∧ 1 ≤ g.days ∧ g.days ≤ 7) := Lib.hid (fun h => by unfold Tt.gridV at h; split at h <;> first | (cases h; done) | omega)
  obtain ⟨G, hG⟩ : ∃ G : Bool, G = decide (Tt.gridV g = 0 ∧ 1 ≤ n ∧ n ≤ 20) := ⟨_, rfl⟩
  obtain ⟨S, hS⟩ : ∃ S : Bool, S = Tt.soundB x := ⟨_, rfl⟩
  obtain ⟨K, hK⟩ : ∃ K : Bool, K = Tt.weeksB x.weeks n := ⟨_, rfl⟩
  obtain ⟨P, hP⟩ : ∃ P, P = w.heap.size := ⟨_, rfl⟩
  obtain ⟨Q, hQ⟩ : ∃ Q, Q = w.heap.size + 1 := ⟨_, rfl⟩
  obtain ⟨W, hW⟩ : ∃ W, W = (w.alloc (.cells #[.int .i64 g.days, .int .i64 g.slots, .int .i64 g.begin_, .int .i64 g.mins] 91)).alloc (.cells #[.int .i64 x.weeks, .int .i64 x.day, .int .i64 x.start, .int .i64 x.len] 108) := ⟨_, rfl⟩
  have HC1 := Lib.hid (show ∀ W, Calls Tryz.prog 147 #[.agg #[.int .i64 g.days, .int .i64 g.slots, .int .i64 g.begin_, .int .i64 g.mins], .int .i64 n] W fun e w' => e = .returned (.bool G) ∧ Below W.heap.size W w' from fun W => by rw [hG]; exact week203 g n W)
  have HC2 := Lib.hid (show ∀ W, Calls Tryz.prog 148 #[.agg #[.int .i64 x.weeks, .int .i64 x.day, .int .i64 x.start, .int .i64 x.len]] W fun e w' => e = .returned (.bool S) ∧ Below W.heap.size W w' from fun W => by rw [hS]; exact sound204 x W)
  have HC3 := Lib.hid (show ∀ W, Calls Tryz.prog 149 #[.int .i64 x.weeks, .int .i64 n] W fun e w' => e = .returned (.bool K) ∧ w' = W from fun W => by rw [hK]; exact weeks205 _ _ W)
  have HB := Lib.hid (show Below w.heap.size w W from by rw [hW]; exact (below_box w _).trans ((below_box _ _).mono (by simp)))
  have HBP := Lib.hid (show Blk P #[.int .i64 g.days, .int .i64 g.slots, .int .i64 g.begin_, .int .i64 g.mins] 91 W from by rw [hW, hP]; exact (Blk.new w _ _).alloc _)
  have HBQ := Lib.hid (show Blk Q #[.int .i64 x.weeks, .int .i64 x.day, .int .i64 x.start, .int .i64 x.len] 108 W from by rw [hW, hQ]; exact Blk.new' _ _ _ (by simp))
  have HG := Lib.hid hG; have HS := Lib.hid hS; have HK := Lib.hid hK; have a0 : W.cell? ⟨P, 0, none⟩ = some (.int .i64 g.days) := HBP.out.cell 0
  have a1 : W.cell? ⟨P, 1, none⟩ = some (.int .i64 g.slots) := HBP.out.cell 1
  have a2 : W.cell? ⟨P, 2, none⟩ = some (.int .i64 g.begin_) := HBP.out.cell 2
  have a3 : W.cell? ⟨P, 3, none⟩ = some (.int .i64 g.mins) := HBP.out.cell 3
  unfold grdVal timVal
  clear hE hG hS hK; go_enter Tryz.func87, Tryz.ntmps87
  go_upto_region 1 with (fail)
  rw [← hW, ← hQ, ← hP]; clear hW hQ hP; go_wp2_with fail
  refine (HC1.out _).mono ?_
  rintro e w1 ⟨rfl, hb1⟩; have HL := Lib.hid (HB.out.trans (hb1.mono HB.out.size))
  have HP1 := Lib.hid (HBP.out.below hb1 HBP.out.lt)
  have HQ1 := Lib.hid (HBQ.out.below hb1 HBQ.out.lt)
  clear hb1 HC1 HB HBP HBQ a0 a1 a2 a3; cases G
  · have hE1 : E = 1 := by rw [HE.out, if_neg (of_decide_eq_false HG.out.symm)]
    have HE1 := Lib.hid hE1; clear hE1; go_wp2_with fail
    go_ret; exact ⟨ret_int HE1.out.symm, HL.out⟩
  · have hg := of_decide_eq_true HG.out.symm
    have HGG := Lib.hid hg; obtain ⟨g1, g2, g3, g4⟩ := HGR.out hg.1
    clear hg; have q0 : w1.cell? ⟨Q, 0, none⟩ = some (.int .i64 x.weeks) := HQ1.out.cell 0
    have q1 : w1.cell? ⟨Q, 1, none⟩ = some (.int .i64 x.day) := HQ1.out.cell 1
    have q2 : w1.cell? ⟨Q, 2, none⟩ = some (.int .i64 x.start) := HQ1.out.cell 2
    have q3 : w1.cell? ⟨Q, 3, none⟩ = some (.int .i64 x.len) := HQ1.out.cell 3
    go_wp2_with fail
    refine (HC2.out _).mono ?_
    rintro e w2 ⟨rfl, hb2⟩; have HL2 := Lib.hid (HL.out.trans (hb2.mono HL.out.size))
    have HP2 := Lib.hid (HP1.out.below hb2 HP1.out.lt)
    have HQ2 := Lib.hid (HQ1.out.below hb2 HQ1.out.lt)
    clear hb2 HC2 HL HP1 HQ1 q0 q1 q2 q3; have a0 : w2.cell? ⟨P, 0, none⟩ = some (.int .i64 g.days) := HP2.out.cell 0
    have a1 : w2.cell? ⟨P, 1, none⟩ = some (.int .i64 g.slots) := HP2.out.cell 1
    have q0 : w2.cell? ⟨Q, 0, none⟩ = some (.int .i64 x.weeks) := HQ2.out.cell 0
    have q1 : w2.cell? ⟨Q, 1, none⟩ = some (.int .i64 x.day) := HQ2.out.cell 1
    have q2 : w2.cell? ⟨Q, 2, none⟩ = some (.int .i64 x.start) := HQ2.out.cell 2
    have q3 : w2.cell? ⟨Q, 3, none⟩ = some (.int .i64 x.len) := HQ2.out.cell 3
    cases S
    · have HE1 := Lib.hid (show E = 14 from by rw [HE.out, if_pos HGG.out, if_neg (fun h => by rw [← HS.out] at h; cases h.1)])
      go_wp2_with fail
      go_ret; exact ⟨ret_int HE1.out.symm, HL2.out⟩
    · obtain ⟨s1, s2, s3, s4, s5, s6, s7⟩ := (Tt.soundB_iff x).1 HS.out.symm
      have hw : wrap64 (x.start + x.len) = x.start + x.len := by unfold RowKit.wrap64; omega
      have HS1 := Lib.hid s1; clear s1; go_wp2_with fail
      refine (HC3.out _).mono ?_
      rintro e w3 ⟨rfl, hx⟩; rw [hx]
      clear hx w3 HC3; cases K
      · have HE1 := Lib.hid (show E = 14 from by rw [HE.out, if_pos HGG.out, if_neg (fun h => by rw [← HK.out] at h; cases h.2.1)])
        go_wp2_with fail
        go_ret; exact ⟨ret_int HE1.out.symm, HL2.out⟩
      · have HE1 := Lib.hid (show E = if x.day < g.days ∧ x.start + x.len ≤ g.slots then 0 else 14 from by
          rw [HE.out, if_pos HGG.out]
          by_cases h : x.day < g.days ∧ x.start + x.len ≤ g.slots
          · rw [if_pos h, if_pos ⟨HS.out.symm, HK.out.symm, h.1, h.2⟩]
          · rw [if_neg h, if_neg (fun hh => h hh.2.2)])
        go_wp2_with fail
        all_goals
          go_ret; refine ⟨ret_int ?_, HL2.out⟩
          rw [HE1.out]
          first | rw [if_pos (by omega)] | rw [if_neg (by omega)]
end Go.Proofs.YtcomifbfldoeiaaGreatDoor
namespace Tt
structure Trm where
  first : Int
  weeks : Int
  hols : List Int
def lastT (t : Trm) : Int := t.first + 7 * t.weeks - 1
def wkdV (n : Int) : Int := if isD n = true then wk n else -1
/-- The error of a term's holidays. -/
def holV (a b : Int) : Option Int → List Int → Int
  | _, [] => 0
  | p, h :: r => if h < a ∨ b < h then 13 else if p.any (fun q => decide (h ≤ q)) = true then 11 else holV a b (some h) r
def prevI (l : List Int) (k : Nat) : Option Int := if k = 0 then none else l[k - 1]?
theorem prevI_succ (l : List Int) (k : Nat) (d : Int) (h : l[k]? = some d) : prevI l (k + 1) = some d := by unfold prevI; simp [h]
def holF (a b : Int) (l : List Int) (k : Nat) : Int := holV a b (prevI l k) (l.drop k)
theorem holF_end (a b : Int) (l : List Int) (k : Nat) (h : l.length ≤ k) : holF a b l k = 0 := by unfold holF; rw [List.drop_eq_nil_of_le h]; rfl
theorem holF_step (a b : Int) (l : List Int) (k : Nat) (d : Int) (h : l[k]? = some d) : holF a b l k = if d < a ∨ b < d then 13 else if (prevI l k).any (fun q => decide (d ≤ q)) = true then 11 else holF a b l (k + 1) := by
  unfold holF
  obtain ⟨g1, g2⟩ := List.getElem?_eq_some_iff.1 h
  rw [List.drop_eq_getElem_cons g1, g2, holV, prevI_succ l k d h]
/-- The error of a term. -/
def trmV (t : Trm) : Int := if wkdV t.first ≠ 0 then 13 else if t.weeks < 1 ∨ 20 < t.weeks then 3 else if isD (lastT t) = false then 13 else if 64 < (t.hols.length : Int) then 2 else holF t.first (lastT t) t.hols 0
theorem trmV_ok {t : Trm} (h : trmV t = 0) : 0 ≤ t.first ∧ t.first ≤ 36524 ∧ 1 ≤ t.weeks ∧ t.weeks ≤ 20 ∧ lastT t ≤ 36524 ∧ wk t.first = 0 := by
  unfold trmV at h
  split at h
  · cases h
  · split at h
    · cases h
    · split at h
      · cases h
      · rename_i h1 h2 h3
        have h4 : isD t.first = true := by
          cases hd : isD t.first with
          | true => rfl
          | false => exact absurd (by unfold wkdV; rw [if_neg (by rw [hd]; decide)]; decide) h1
        have h5 : wk t.first = 0 := by
          have h6 : ¬ wkdV t.first ≠ 0 := h1
          unfold wkdV at h6
          rw [if_pos h4] at h6
          omega
        have h7 : isD (lastT t) = true := by simpa using h3
        have h8 := (isD_iff _).1 h4
        have h9 := (isD_iff _).1 h7
        exact ⟨h8.1, h8.2, by omega, by omega, h9.2, h5⟩
/-- The day with a weekday in a week of a term. -/
def atD (t : Trm) (k d : Int) : Int := t.first + 7 * (k - 1) + d
def atB (t : Trm) (k d : Int) : Bool := decide (trmV t = 0 ∧ 1 ≤ k ∧ k ≤ t.weeks ∧ 0 ≤ d ∧ d < 7) && !decide (atD t k d ∈ t.hols)
/-- The days of a time in the first k weeks of a term. -/
def daysK (t : Trm) (x : Tim) : Nat → List Int
  | 0 => []
  | k + 1 => if bit x.weeks k = true ∧ atB t ((k : Int) + 1) x.day = true then daysK t x k ++ [atD t ((k : Int) + 1) x.day] else daysK t x k
theorem daysK_len (t : Trm) (x : Tim) : ∀ k, (daysK t x k).length ≤ k
  | 0 => Nat.le_refl _
  | k + 1 => by
    have ih := daysK_len t x k; rw [daysK]
    split
    · rw [List.length_append]; simp; omega
    · omega
end Tt
namespace Go.Proofs.YtcomifbfldoeiaaGreatDoor
open Go.RowKit

def trmVal (t : Tt.Trm) (v : Value) : Value := .agg #[.int .i64 t.first, .int .i64 t.weeks, v]
theorem wkd191_any (n : Int) (w : World) : Calls Tryz.prog 95 #[.int .i64 n] w fun e w' => e = .returned (.int .i64 (Tt.wkdV n)) ∧ w' = w := by
  unfold Tt.wkdV
  cases h : Tt.isD n with
  | true => rw [if_pos rfl]; exact wkd191 n w h
  | false => rw [if_neg (by decide)]; exact wkd191_not n w h
set_option maxHeartbeats 4000000 in
set_option maxRecDepth 100000 in
theorem last193 (t : Tt.Trm) (p : Option Addr) (n c : Nat) (w : World) (h0 : 0 ≤ t.first) (h1 : t.first ≤ 36524) (h2 : 0 ≤ t.weeks) (h3 : t.weeks ≤ 20) : Calls Tryz.prog 93 #[trmVal t (.slice p n c)] w fun e w' => e = .returned (.int .i64 (Tt.lastT t)) ∧ Below w.heap.size w w' := by
  obtain ⟨f, k, l⟩ := t; have HB := Lib.hid (below_box w (.cells #[.int .i64 f, .int .i64 k, .slice p n c] 94))
  have h0 : 0 ≤ f := h0
  have h1 : f ≤ 36524 := h1
  have h2 : 0 ≤ k := h2
  have h3 : k ≤ 20 := h3
  unfold trmVal
  go_enter Tryz.func93, Tryz.ntmps93
  go_wp2_with fail
  go_ret; exact ⟨rfl, HB.out⟩
set_option maxHeartbeats 4000000 in
set_option maxRecDepth 100000 in
theorem free219 (t : Tt.Trm) (ao : Option Addr) (c : Nat) (B : Nat) (x : Int) (w : World) (hB : B ≤ w.heap.size) (hI : Ints B w ao t.hols) (hn : t.hols.length ≤ 4611686018427387903) : Calls Tryz.prog 94 #[trmVal t (.slice ao t.hols.length c), .int .i64 x] w fun e w' => e = .returned (.bool (!decide (x ∈ t.hols))) ∧ Below w.heap.size w w' := by
  obtain ⟨P, hP⟩ : ∃ P, P = w.heap.size := ⟨_, rfl⟩
  obtain ⟨W, hW⟩ : ∃ W, W = w.alloc (.cells #[.int .i64 t.first, .int .i64 t.weeks, .slice ao t.hols.length c] 94) := ⟨_, rfl⟩
  have HBW := Lib.hid (show Below w.heap.size w W from by rw [hW]; exact below_box w _)
  have HPW := Lib.hid (show Blk P #[.int .i64 t.first, .int .i64 t.weeks, .slice ao t.hols.length c] 94 W from by rw [hW, hP]; exact Blk.new w _ _)
  have HIW := Lib.hid (show Ints B W ao t.hols from hI.below (HBW.out.mono hB))
  have HBP := Lib.hid (show B ≤ P by omega)
  unfold trmVal
  clear hI; obtain ⟨xs, hxs⟩ : ∃ xs, xs = t.hols := ⟨_, rfl⟩
  rw [← hxs] at hn HIW HPW hW ⊢
  have c0 : W.cell? ⟨P, 0, none⟩ = some (.int .i64 t.first) := HPW.out.cell 0
  have c1 : W.cell? ⟨P, 1, none⟩ = some (.int .i64 t.weeks) := HPW.out.cell 1
  have c2 : W.cell? ⟨P, 2, none⟩ = some (.slice ao xs.length c) := HPW.out.cell 2
  clear hxs; go_enter Tryz.func94, Tryz.ntmps94
  go_upto_region 1 with (fail)
  rw [← hW, ← hP]; clear hW hP; go_wp2_with fail
  go_loop [10] (fun i => ∃ k : Nat, i = .int .i64 k ∧ k ≤ xs.length ∧ Hid (decide (x ∈ xs) = decide (x ∈ xs.drop k))) (fun i => xs.length - (intOf i).toNat)
  case atStart => exact ⟨0, rfl, Nat.zero_le _, rfl⟩
  case round =>
    obtain ⟨k, rfl, hk, HK⟩ := hrel; by_cases hlt : k < xs.length
    · obtain ⟨d, hd⟩ : ∃ d, xs[k]? = some d := ⟨_, List.getElem?_eq_getElem hlt⟩
      obtain ⟨b, o, ha, hb, hc0⟩ := HIW.out.form (by omega)
      subst ha; have hc := hc0 k d hd; have hki : (k : Int) < (xs.length : Int) := by omega
      have HD := Lib.hid (show decide (x ∈ xs.drop k) = (decide (x = d) || decide (x ∈ xs.drop (k + 1))) by
        obtain ⟨g1, g2⟩ := List.getElem?_eq_some_iff.1 hd
        rw [List.drop_eq_getElem_cons g1, g2]; simp)
      clear hd hc0; by_cases he : d = x
      · have ht : (d == x) = true := by simp [he]
        have HE := Lib.hid (show decide (x ∈ xs) = true by rw [HK.out, HD.out, he]; simp)
        clear he; go_wp2_with fail
        go_ret; exact ⟨ret_bool (by rw [HE.out] <;> rfl), HBW.out⟩
      · have ht : (d == x) = false := by simp [he]
        have HE := Lib.hid (show decide (x ∈ xs) = decide (x ∈ xs.drop (k + 1)) by rw [HK.out, HD.out, decide_eq_false (fun e => he e.symm)]; rfl)
        clear he; go_wp2_with fail
        go_round
        case rel => exact ⟨k + 1, by go_num, by omega, HE.out⟩
        case measure => simp [intOf]; omega
    · have hki : ¬ (k : Int) < (xs.length : Int) := by omega
      have HE := Lib.hid (show decide (x ∈ xs) = false by rw [HK.out, List.drop_eq_nil_of_le (by omega)]; simp)
      go_wp2_with fail
      go_ret; exact ⟨ret_bool (by rw [HE.out] <;> rfl), HBW.out⟩
set_option maxHeartbeats 4000000 in
set_option maxRecDepth 100000 in
theorem trm125 (t : Tt.Trm) (ao : Option Addr) (c : Nat) (B : Nat) (w : World) (hB : B ≤ w.heap.size) (hI : Ints B w ao t.hols) (hn : t.hols.length ≤ 4611686018427387903) : Calls Tryz.prog 79 #[trmVal t (.slice ao t.hols.length c)] w fun e w' => e = .returned (.int .i64 (Tt.trmV t)) ∧ Below w.heap.size w w' := by
  obtain ⟨E, hE⟩ : ∃ E, E = Tt.trmV t := ⟨_, rfl⟩
  rw [← hE]; have HE := Lib.hid (show E = (if Tt.wkdV t.first ≠ 0 then 13 else if t.weeks < 1 ∨ 20 < t.weeks then 3 else if Tt.isD (Tt.lastT t) = false then 13 else if 64 < (t.hols.length : Int) then 2 else Tt.holF t.first (Tt.lastT t) t.hols 0) from hE)
  clear hE; obtain ⟨P, hP⟩ : ∃ P, P = w.heap.size := ⟨_, rfl⟩
  obtain ⟨W, hW⟩ : ∃ W, W = w.alloc (.cells #[.int .i64 t.first, .int .i64 t.weeks, .slice ao t.hols.length c] 94) := ⟨_, rfl⟩
  have HBW := Lib.hid (show Below w.heap.size w W from by rw [hW]; exact below_box w _)
  have HPW := Lib.hid (show Blk P #[.int .i64 t.first, .int .i64 t.weeks, .slice ao t.hols.length c] 94 W from by rw [hW, hP]; exact Blk.new w _ _)
  have HIW := Lib.hid (show Ints B W ao t.hols from hI.below (HBW.out.mono hB))
  have HBP := Lib.hid (show B ≤ P by omega)
  unfold trmVal
  clear hI; have c0 : W.cell? ⟨P, 0, none⟩ = some (.int .i64 t.first) := HPW.out.cell 0
  have c1 : W.cell? ⟨P, 1, none⟩ = some (.int .i64 t.weeks) := HPW.out.cell 1
  have c2 : W.cell? ⟨P, 2, none⟩ = some (.slice ao t.hols.length c) := HPW.out.cell 2
  obtain ⟨D, hD⟩ : ∃ D, D = Tt.wkdV t.first := ⟨_, rfl⟩
  rw [← hD] at HE
  have HD := Lib.hid hD; clear hD; have HDF : Hid (D = 0 → 0 ≤ t.first ∧ t.first ≤ 36524) := Lib.hid (fun h => by
    rw [HD.out] at h
    unfold Tt.wkdV at h
    split at h
    · rename_i hd; exact (Tt.isD_iff _).1 hd
    · cases h)
  go_enter Tryz.func79, Tryz.ntmps79
  go_upto_region 1 with (fail)
  rw [← hW, ← hP]; clear hW hP; go_wp2_with fail
  refine (wkd191_any _ _).mono ?_
  rintro e w1 ⟨rfl, hx⟩; rw [hx, ← HD.out]
  clear hx w1; by_cases hD0 : D = 0
  rotate_left
  · have hb : (D != 0) = true := by simp [hD0]
    have HE1 := Lib.hid (show E = 13 from by rw [HE.out, if_pos hD0])
    clear hD0; go_wp2_with fail
    go_ret; exact ⟨ret_int HE1.out.symm, HBW.out⟩
  have hb : (D != 0) = false := by simp [hD0]
  obtain ⟨f0, f1⟩ := HDF.out hD0
  have HD0 := Lib.hid hD0; clear hD0; by_cases hw : t.weeks < 1 ∨ 20 < t.weeks
  · have HE1 := Lib.hid (show E = 3 from by rw [HE.out, if_neg (fun h => h HD0.out), if_pos hw])
    rcases hw with hw | hw
    · go_wp2_with fail
      all_goals first
        | (exfalso; omega)
        | (go_ret
           exact ⟨ret_int HE1.out.symm, HBW.out⟩)
    · go_wp2_with fail
      all_goals first
        | (exfalso; omega)
        | (go_ret
           exact ⟨ret_int HE1.out.symm, HBW.out⟩)
  have hw0 : 1 ≤ t.weeks := by omega
  have hw1 : t.weeks ≤ 20 := by omega
  have HW := Lib.hid hw; clear hw; obtain ⟨LT, hLT⟩ : ∃ L, L = Tt.lastT t := ⟨_, rfl⟩
  rw [← hLT] at HE
  have HLT := Lib.hid (show LT = t.first + 7 * t.weeks - 1 from hLT)
  have HLT2 := Lib.hid hLT; clear hLT; have HC : Hid (∀ X, Below W.heap.size W X → Calls Tryz.prog 93 #[.agg #[.int .i64 t.first, .int .i64 t.weeks, .slice ao t.hols.length c]] X fun e w' => e = .returned (.int .i64 LT) ∧ Below X.heap.size X w') := Lib.hid (fun X _ => by rw [HLT2.out]; exact last193 t _ _ _ X f0 f1 (by omega) hw1)
  go_wp2_with fail
  refine (HC.out _ (Below.refl _ _)).mono ?_
  rintro e w1 ⟨rfl, hb1⟩; have HL1 := Lib.hid hb1; clear hb1 c0 c1 c2; go_wp2_with fail
  have c0 : w1.cell? ⟨P, 0, none⟩ = some (.int .i64 t.first) := (HPW.out.below HL1.out HPW.out.lt).cell 0
  have c1 : w1.cell? ⟨P, 1, none⟩ = some (.int .i64 t.weeks) := (HPW.out.below HL1.out HPW.out.lt).cell 1
  have c2 : w1.cell? ⟨P, 2, none⟩ = some (.slice ao t.hols.length c) := (HPW.out.below HL1.out HPW.out.lt).cell 2
  obtain ⟨IB, hIB⟩ : ∃ b, b = Tt.isD LT := ⟨_, rfl⟩
  rw [← hIB] at HE
  have HIB := Lib.hid hIB; clear hIB; refine (isD192 _ _).mono ?_
  rintro e w2 ⟨rfl, hx⟩; rw [hx, ← HIB.out]
  clear hx w2; cases IB
  · have HE1 := Lib.hid (show E = 13 from by rw [HE.out, if_neg (fun h => h HD0.out), if_neg HW.out, if_pos rfl])
    go_wp2_with fail
    go_ret; exact ⟨ret_int HE1.out.symm, HBW.out.trans (HL1.out.mono HBW.out.size)⟩
  · by_cases hm : 64 < (t.hols.length : Int)
    · have HE1 := Lib.hid (show E = 2 from by rw [HE.out, if_neg (fun h => h HD0.out), if_neg HW.out, if_neg (by decide), if_pos hm])
      go_wp2_with fail
      go_ret; exact ⟨ret_int HE1.out.symm, HBW.out.trans (HL1.out.mono HBW.out.size)⟩
    have HE1 := Lib.hid (show Tt.holF t.first LT t.hols 0 = E from by rw [HE.out, if_neg (fun h => h HD0.out), if_neg HW.out, if_neg (by decide), if_neg hm])
    obtain ⟨xs, hxs⟩ : ∃ xs, xs = t.hols := ⟨_, rfl⟩
    go_wp2_with fail
    go_loopw [32] (fun iv wr => ∃ k : Nat, iv = .int .i64 k ∧ k ≤ t.hols.length ∧ Hid (Tt.holF t.first LT t.hols k = E) ∧ Hid (Below W.heap.size W wr)) (fun iv _ => t.hols.length - (intOf iv).toNat)
    case atStart => exact ⟨0, rfl, Nat.zero_le _, HE1, HL1⟩
    case round =>
      clear c0 c1 c2; obtain ⟨k, rfl, hk, HK, HB⟩ := hrel; have c0 : wr.cell? ⟨P, 0, none⟩ = some (.int .i64 t.first) := (HPW.out.below HB.out HPW.out.lt).cell 0
      have c1 : wr.cell? ⟨P, 1, none⟩ = some (.int .i64 t.weeks) := (HPW.out.below HB.out HPW.out.lt).cell 1
      have c2 : wr.cell? ⟨P, 2, none⟩ = some (.slice ao t.hols.length c) := (HPW.out.below HB.out HPW.out.lt).cell 2
      by_cases hlt : k < t.hols.length
      · obtain ⟨d, hd⟩ : ∃ d, t.hols[k]? = some d := ⟨_, List.getElem?_eq_getElem hlt⟩
        have HIr := Lib.hid (HIW.out.below (HB.out.mono (by have := HPW.out.lt; have := HBP.out; omega)))
        obtain ⟨b, o, ha, hb3, hc0⟩ := HIr.out.form (by omega)
        subst ha; have hc := hc0 k d hd; have hki : (k : Int) < (t.hols.length : Int) := by omega
        have hkz : (0 : Int) ≤ (k : Int) := by omega
        have HST := Lib.hid (Tt.holF_step t.first LT t.hols k d hd)
        have HFIN := Lib.hid (show Below w.heap.size w wr from HBW.out.trans (HB.out.mono HBW.out.size))
        by_cases h1 : d < t.first
        · have HR := Lib.hid (show E = 13 from by rw [← HK.out, HST.out, if_pos (.inl h1)])
          clear hd hc0; go_wp2_with fail
          go_ret; exact ⟨ret_int HR.out.symm, HFIN.out⟩
        by_cases h2 : LT < d
        · have HR := Lib.hid (show E = 13 from by rw [← HK.out, HST.out, if_pos (.inr h2)])
          clear hd hc0; go_wp2_with fail
          refine (HC.out _ HB.out).mono ?_
          rintro e w5 ⟨rfl, hb5⟩; have HB5 := Lib.hid (HB.out.trans (hb5.mono HB.out.size))
          have HF5 := Lib.hid (HFIN.out.trans (hb5.mono HFIN.out.size))
          clear hb5 c0 c1 c2 hc; go_wp2_with fail
          go_ret; exact ⟨ret_int HR.out.symm, HF5.out⟩
        have HS2 := Lib.hid (show E = if (Tt.prevI t.hols k).any (fun q => decide (d ≤ q)) = true then 11 else Tt.holF t.first LT t.hols (k + 1) from by rw [← HK.out, HST.out, if_neg (fun h => h.elim h1 h2)])
        by_cases hk0 : k = 0
        · subst hk0; have hki0 : (0 : Int) < (t.hols.length : Int) := by omega
          have hc : wr.cell? ⟨b, o, none⟩ = some (.int .i64 d) := by simpa using hc
          have HR := Lib.hid (show Tt.holF t.first LT t.hols 1 = E from by rw [HS2.out]; rfl)
          clear hd hc0; go_wp2_with fail
          refine (HC.out _ HB.out).mono ?_
          rintro e w5 ⟨rfl, hb5⟩; have HB5 := Lib.hid (HB.out.trans (hb5.mono HB.out.size))
          have HF5 := Lib.hid (HFIN.out.trans (hb5.mono HFIN.out.size))
          clear hb5 c0 c1 c2 hc; go_wp2_with fail
          go_roundw
          case rel => exact ⟨1, by go_num, by omega, HR, HB5⟩
          case measure => simp [intOf]; omega
        obtain ⟨d2, hd2⟩ : ∃ d2, t.hols[k - 1]? = some d2 := ⟨_, List.getElem?_eq_getElem (by omega)⟩
        have hc2x := hc0 (k - 1) d2 hd2
        have hk3 : (0 : Int) < (k : Int) := by omega
        have hk4 : (0 : Int) ≤ (k : Int) - 1 := by omega
        have hk5 : (k : Int) - 1 < (t.hols.length : Int) := by omega
        have hk6 : ((k : Int) - 1).toNat = k - 1 := by omega
        have hk7 : wrap64 ((k : Int) - 1) = (k : Int) - 1 := by unfold RowKit.wrap64; omega
        have HPR := Lib.hid (show Tt.prevI t.hols k = some d2 from by unfold Tt.prevI; rw [if_neg hk0, hd2])
        by_cases h3 : d ≤ d2
        · have HR := Lib.hid (show E = 11 from by rw [HS2.out, HPR.out]; exact if_pos (decide_eq_true h3))
          clear hd hc0 hd2 hk0; go_wp2_with fail
          refine (HC.out _ HB.out).mono ?_
          rintro e w5 ⟨rfl, hb5⟩; have HB5 := Lib.hid (HB.out.trans (hb5.mono HB.out.size))
          have HF5 := Lib.hid (HFIN.out.trans (hb5.mono HFIN.out.size))
          have hc2y := (hb5.cell (p := ⟨b, o + (k - 1), none⟩) (by have := HB.out.size; have := HPW.out.lt; have := HBP.out; show b < _; omega)).trans hc2x
          have c2y := (hb5.cell (p := ⟨P, 2, none⟩) (by have := HB.out.size; have := HPW.out.lt; show P < _; omega)).trans c2
          clear hb5 c0 c1 c2 hc hc2x; go_wp2_with fail
          go_ret; exact ⟨ret_int HR.out.symm, HF5.out⟩
        · have HR := Lib.hid (show Tt.holF t.first LT t.hols (k + 1) = E from by rw [HS2.out, HPR.out]; exact (if_neg (by simp; omega)).symm)
          clear hd hc0 hd2 hk0; go_wp2_with fail
          refine (HC.out _ HB.out).mono ?_
          rintro e w5 ⟨rfl, hb5⟩; have HB5 := Lib.hid (HB.out.trans (hb5.mono HB.out.size))
          have HF5 := Lib.hid (HFIN.out.trans (hb5.mono HFIN.out.size))
          have hc2y := (hb5.cell (p := ⟨b, o + (k - 1), none⟩) (by have := HB.out.size; have := HPW.out.lt; have := HBP.out; show b < _; omega)).trans hc2x
          have c2y := (hb5.cell (p := ⟨P, 2, none⟩) (by have := HB.out.size; have := HPW.out.lt; show P < _; omega)).trans c2
          clear hb5 c0 c1 c2 hc hc2x; go_wp2_with fail
          go_roundw
          case rel => exact ⟨k + 1, by go_num, by omega, HR, HB5⟩
          case measure => simp [intOf]; omega
      · have hki : ¬ (k : Int) < (t.hols.length : Int) := by omega
        have HR := Lib.hid (show E = 0 from by rw [← HK.out]; exact Tt.holF_end _ _ _ _ (by omega))
        have HFIN := Lib.hid (show Below w.heap.size w wr from HBW.out.trans (HB.out.mono HBW.out.size))
        go_wp2_with fail
        go_ret; exact ⟨ret_int HR.out.symm, HFIN.out⟩
end Go.Proofs.YtcomifbfldoeiaaGreatDoor
