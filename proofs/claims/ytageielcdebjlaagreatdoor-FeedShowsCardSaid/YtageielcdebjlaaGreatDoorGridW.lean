/- Grids and times of a week: timegrid.Valid, Sound, Week, Fits, weekset.Valid, and the reference's. -/
import Derived.Test.YtageielcdebjlaaGreatDoorDaysAll
import Derived.Test.YtageielcdebjlaaGreatDoorPk11
namespace Tt
structure Grd where
  days : Int
  slots : Int
  begin_ : Int
  mins : Int
structure Tim where
  weeks : Int
  day : Int
  start : Int
  len : Int
/-- The error of a grid. -/
def gridV (g : Grd) : Int := if g.days < 1 ∨ 7 < g.days ∨ g.slots < 1 ∨ 24 < g.slots ∨ g.begin_ < 0 ∨ 1440 ≤ g.begin_ ∨ g.mins < 5 ∨ 120 < g.mins ∨ 1440 < g.begin_ + g.slots * g.mins then 3 else 0
/-- Is a number a set of weeks? -/
def weeksB (set n : Int) : Bool := decide (1 ≤ n ∧ n ≤ 20 ∧ 1 ≤ set ∧ set < ((2 ^ n.toNat : Nat) : Int))
/-- Is a time sound? -/
def soundB (t : Tim) : Bool := weeksB t.weeks 20 && decide (0 ≤ t.day ∧ t.day < 7 ∧ 0 ≤ t.start ∧ t.start < 24 ∧ 1 ≤ t.len ∧ t.start + t.len ≤ 24)
/-- The error of a time in a grid. -/
def fitsV (g : Grd) (weeks : Int) (t : Tim) : Int := if gridV g = 0 ∧ 1 ≤ weeks ∧ weeks ≤ 20 then (if soundB t = true ∧ weeksB t.weeks weeks = true ∧ t.day < g.days ∧ t.start + t.len ≤ g.slots then 0 else 14) else 1
theorem mul_small {s m : Int} (h0 : 1 ≤ s) (h1 : s ≤ 24) (h2 : 5 ≤ m) (h3 : m ≤ 120) : 0 ≤ s * m ∧ s * m ≤ 2880 := by
  constructor
  · exact Int.mul_nonneg (by omega) (by omega)
  · calc s * m ≤ 24 * m := Int.mul_le_mul_of_nonneg_right h1 (by omega)
      _ ≤ 24 * 120 := Int.mul_le_mul_of_nonneg_left h3 (by omega)
theorem soundB_iff (t : Tim) : soundB t = true ↔ weeksB t.weeks 20 = true ∧ 0 ≤ t.day ∧ t.day < 7 ∧ 0 ≤ t.start ∧ t.start < 24 ∧ 1 ≤ t.len ∧ t.start + t.len ≤ 24 := by
  unfold soundB; simp
end Tt
namespace Go.Proofs.YtageielcdebjlaaGreatDoor
open Go.RowKit

def grdVal (g : Tt.Grd) : Value := .agg #[.int .i64 g.days, .int .i64 g.slots, .int .i64 g.begin_, .int .i64 g.mins]
def timVal (t : Tt.Tim) : Value := .agg #[.int .i64 t.weeks, .int .i64 t.day, .int .i64 t.start, .int .i64 t.len]
set_option maxHeartbeats 4000000 in
set_option maxRecDepth 100000 in
theorem grid124 (g : Tt.Grd) (w : World) : Calls Tryz.prog 124 #[grdVal g] w fun e w' => e = .returned (.int .i64 (Tt.gridV g)) ∧ Below w.heap.size w w' := by
  obtain ⟨d, s, b, m⟩ := g; obtain ⟨E, hE⟩ : ∃ E, E = Tt.gridV ⟨d, s, b, m⟩ := ⟨_, rfl⟩
  rw [← hE]; have HE := Lib.hid (show E = (if d < 1 ∨ 7 < d ∨ s < 1 ∨ 24 < s ∨ b < 0 ∨ 1440 ≤ b ∨ m < 5 ∨ 120 < m ∨ 1440 < b + s * m then 3 else 0) from hE)
  have HB := Lib.hid (below_box w (.cells #[.int .i64 d, .int .i64 s, .int .i64 b, .int .i64 m] 90))
  clear hE; unfold grdVal
  by_cases hr : 1 ≤ s ∧ s ≤ 24 ∧ 0 ≤ b ∧ b < 1440 ∧ 5 ≤ m ∧ m ≤ 120
  · obtain ⟨a0, a1, a2, a3, a4, a5⟩ := hr; obtain ⟨p0, p1⟩ := Tt.mul_small a0 a1 a4 a5
    obtain ⟨p, hp⟩ : ∃ p, p = s * m := ⟨_, rfl⟩
    have HP := Lib.hid hp; rw [← hp] at p0 p1
    have hw1 : wrap64 (s * m) = p := by rw [← hp]; unfold RowKit.wrap64; omega
    have hw2 : wrap64 (b + p) = b + p := by unfold RowKit.wrap64; omega
    clear hp; go_enter Tryz.func124, Tryz.ntmps124
    go_wp2_with fail
    all_goals
      go_ret; refine ⟨ret_int ?_, HB.out⟩
      rw [HE.out, ← HP.out]
      first | rw [if_pos (by omega)] | rw [if_neg (by omega)]
  · go_enter Tryz.func124, Tryz.ntmps124
    go_wp2_with fail
    all_goals first
      | (exfalso; omega)
      | (go_ret
         refine ⟨ret_int ?_, HB.out⟩
         rw [HE.out, if_pos (by omega)])
set_option maxHeartbeats 4000000 in
set_option maxRecDepth 100000 in
theorem grid137 (g : Tt.Grd) (w : World) : Calls Tryz.prog 137 #[grdVal g] w fun e w' => e = .returned (.int .i64 (Tt.gridV g)) ∧ Below w.heap.size w w' := by
  obtain ⟨d, s, b, m⟩ := g; obtain ⟨E, hE⟩ : ∃ E, E = Tt.gridV ⟨d, s, b, m⟩ := ⟨_, rfl⟩
  rw [← hE]; have HE := Lib.hid (show E = (if d < 1 ∨ 7 < d ∨ s < 1 ∨ 24 < s ∨ b < 0 ∨ 1440 ≤ b ∨ m < 5 ∨ 120 < m ∨ 1440 < b + s * m then 3 else 0) from hE)
  have HB := Lib.hid (below_box w (.cells #[.int .i64 d, .int .i64 s, .int .i64 b, .int .i64 m] 90))
  clear hE; unfold grdVal
  by_cases hr : 1 ≤ s ∧ s ≤ 24 ∧ 0 ≤ b ∧ b < 1440 ∧ 5 ≤ m ∧ m ≤ 120
  · obtain ⟨a0, a1, a2, a3, a4, a5⟩ := hr; obtain ⟨p0, p1⟩ := Tt.mul_small a0 a1 a4 a5
    obtain ⟨p, hp⟩ : ∃ p, p = s * m := ⟨_, rfl⟩
    have HP := Lib.hid hp; rw [← hp] at p0 p1
    have hw1 : wrap64 (s * m) = p := by rw [← hp]; unfold RowKit.wrap64; omega
    have hw2 : wrap64 (b + p) = b + p := by unfold RowKit.wrap64; omega
    clear hp; go_enter Tryz.func137, Tryz.ntmps137
    go_wp2_with fail
    all_goals
      go_ret; refine ⟨ret_int ?_, HB.out⟩
      rw [HE.out, ← HP.out]
      first | rw [if_pos (by omega)] | rw [if_neg (by omega)]
  · go_enter Tryz.func137, Tryz.ntmps137
    go_wp2_with fail
    all_goals first
      | (exfalso; omega)
      | (go_ret
         refine ⟨ret_int ?_, HB.out⟩
         rw [HE.out, if_pos (by omega)])
set_option maxHeartbeats 4000000 in
set_option maxRecDepth 100000 in
theorem weeks205 (set n : Int) (w : World) : Calls Tryz.prog 205 #[.int .i64 set, .int .i64 n] w fun e w' => e = .returned (.bool (Tt.weeksB set n)) ∧ w' = w := by
  obtain ⟨B, hB⟩ : ∃ B, B = Tt.weeksB set n := ⟨_, rfl⟩
  rw [← hB]; have HB := Lib.hid (show B = decide (1 ≤ n ∧ n ≤ 20 ∧ 1 ≤ set ∧ set < ((2 ^ n.toNat : Nat) : Int)) from hB)
  clear hB; by_cases hr : 1 ≤ n ∧ n ≤ 20
  · obtain ⟨a0, a1⟩ := hr; obtain ⟨k, rfl⟩ : ∃ k : Nat, n = k := ⟨n.toNat, by omega⟩
    obtain ⟨p, hp⟩ : ∃ p : Nat, p = 2 ^ k := ⟨_, rfl⟩
    have hp1 : p ≤ 1048576 := by rw [hp]; exact Nat.pow_le_pow_right (n := 2) (by decide) (show k ≤ 20 by omega)
    have HP := Lib.hid hp; have hk0 : ¬ ((k : Int) < 0) := by omega
    have hs1 : RowKit.wrap64 (2 ^ k) = (p : Int) := by rw [show ((2 : Int) ^ k) = ((2 ^ k : Nat) : Int) by simp, ← hp]; unfold RowKit.wrap64; omega
    clear hp; go_enter Tryz.func205, Tryz.ntmps205
    go_wp2_with fail
    all_goals
      go_ret; refine ⟨ret_bool ?_, rfl⟩
      rw [HB.out, Int.toNat_natCast, ← HP.out]
      first | exact decide_eq_decide.2 (by omega) | exact (decide_eq_false (by omega)).symm
  · go_enter Tryz.func205, Tryz.ntmps205
    go_wp2_with fail
    all_goals first
      | (exfalso; omega)
      | (go_ret
         refine ⟨ret_bool ?_, rfl⟩
         rw [HB.out]
         exact (decide_eq_false (fun h => hr ⟨h.1, h.2.1⟩)).symm)
set_option maxHeartbeats 4000000 in
set_option maxRecDepth 100000 in
theorem weeks213 (set n : Int) (w : World) : Calls Tryz.prog 213 #[.int .i64 set, .int .i64 n] w fun e w' => e = .returned (.bool (Tt.weeksB set n)) ∧ w' = w := by
  obtain ⟨B, hB⟩ : ∃ B, B = Tt.weeksB set n := ⟨_, rfl⟩
  rw [← hB]; have HB := Lib.hid (show B = decide (1 ≤ n ∧ n ≤ 20 ∧ 1 ≤ set ∧ set < ((2 ^ n.toNat : Nat) : Int)) from hB)
  clear hB; by_cases hr : 1 ≤ n ∧ n ≤ 20
  · obtain ⟨a0, a1⟩ := hr; obtain ⟨k, rfl⟩ : ∃ k : Nat, n = k := ⟨n.toNat, by omega⟩
    obtain ⟨p, hp⟩ : ∃ p : Nat, p = 2 ^ k := ⟨_, rfl⟩
    have hp1 : p ≤ 1048576 := by rw [hp]; exact Nat.pow_le_pow_right (n := 2) (by decide) (show k ≤ 20 by omega)
    have HP := Lib.hid hp; have hk0 : ¬ ((k : Int) < 0) := by omega
    have hs1 : RowKit.wrap64 (2 ^ k) = (p : Int) := by rw [show ((2 : Int) ^ k) = ((2 ^ k : Nat) : Int) by simp, ← hp]; unfold RowKit.wrap64; omega
    clear hp; go_enter Tryz.func213, Tryz.ntmps213
    go_wp2_with fail
    all_goals
      go_ret; refine ⟨ret_bool ?_, rfl⟩
      rw [HB.out, Int.toNat_natCast, ← HP.out]
      first | exact decide_eq_decide.2 (by omega) | exact (decide_eq_false (by omega)).symm
  · go_enter Tryz.func213, Tryz.ntmps213
    go_wp2_with fail
    all_goals first
      | (exfalso; omega)
      | (go_ret
         refine ⟨ret_bool ?_, rfl⟩
         rw [HB.out]
         exact (decide_eq_false (fun h => hr ⟨h.1, h.2.1⟩)).symm)
set_option maxHeartbeats 4000000 in
set_option maxRecDepth 100000 in
theorem week203 (g : Tt.Grd) (n : Int) (w : World) : Calls Tryz.prog 203 #[grdVal g, .int .i64 n] w fun e w' => e = .returned (.bool (decide (Tt.gridV g = 0 ∧ 1 ≤ n ∧ n ≤ 20))) ∧ Below w.heap.size w w' := by
  obtain ⟨E, hE⟩ : ∃ E, E = Tt.gridV g := ⟨_, rfl⟩
  rw [← hE]; obtain ⟨W, hW⟩ : ∃ W, W = w.alloc (.cells #[.int .i64 g.days, .int .i64 g.slots, .int .i64 g.begin_, .int .i64 g.mins] 90) := ⟨_, rfl⟩
  have HC := Lib.hid (show Calls Tryz.prog 124 #[.agg #[.int .i64 g.days, .int .i64 g.slots, .int .i64 g.begin_, .int .i64 g.mins]] W fun e w' => e = .returned (.int .i64 E) ∧ Below W.heap.size W w' from by rw [hE]; exact grid124 g W)
  have HB := Lib.hid (show Below w.heap.size w W from by rw [hW]; exact below_box w _)
  have hb : Blk w.heap.size #[.int .i64 g.days, .int .i64 g.slots, .int .i64 g.begin_, .int .i64 g.mins] 90 W := by rw [hW]; exact Blk.new w _ _
  have c0 : W.cell? ⟨w.heap.size, 0, none⟩ = some (.int .i64 g.days) := hb.cell 0
  have c1 : W.cell? ⟨w.heap.size, 1, none⟩ = some (.int .i64 g.slots) := hb.cell 1
  have c2 : W.cell? ⟨w.heap.size, 2, none⟩ = some (.int .i64 g.begin_) := hb.cell 2
  have c3 : W.cell? ⟨w.heap.size, 3, none⟩ = some (.int .i64 g.mins) := hb.cell 3
  unfold grdVal
  clear hE hb; go_enter Tryz.func203, Tryz.ntmps203
  go_upto_region 1 with (fail)
  rw [← hW]; clear hW; go_wp2_with fail
  refine HC.out.mono ?_
  rintro e w1 ⟨rfl, hb1⟩; have HL := Lib.hid (HB.out.trans (hb1.mono HB.out.size))
  clear hb1 HC HB c0 c1 c2 c3; by_cases h0 : E = 0
  · have h1 : (E == 0) = true := by simp [h0]
    go_wp2_with fail
    all_goals
      go_ret; refine ⟨ret_bool ?_, HL.out⟩
      first | exact (decide_eq_false (by omega)).symm | exact decide_eq_decide.2 (by omega) | (simp; omega)
  · have h1 : (E == 0) = false := by simp [h0]
    go_wp2_with fail
    all_goals
      go_ret; refine ⟨ret_bool ?_, HL.out⟩
      exact (decide_eq_false (fun h => h0 h.1)).symm
set_option maxHeartbeats 4000000 in
set_option maxRecDepth 100000 in
theorem week211 (g : Tt.Grd) (n : Int) (w : World) : Calls Tryz.prog 211 #[grdVal g, .int .i64 n] w fun e w' => e = .returned (.bool (decide (Tt.gridV g = 0 ∧ 1 ≤ n ∧ n ≤ 20))) ∧ Below w.heap.size w w' := by
  obtain ⟨E, hE⟩ : ∃ E, E = Tt.gridV g := ⟨_, rfl⟩
  rw [← hE]; obtain ⟨W, hW⟩ : ∃ W, W = w.alloc (.cells #[.int .i64 g.days, .int .i64 g.slots, .int .i64 g.begin_, .int .i64 g.mins] 90) := ⟨_, rfl⟩
  have HC := Lib.hid (show Calls Tryz.prog 137 #[.agg #[.int .i64 g.days, .int .i64 g.slots, .int .i64 g.begin_, .int .i64 g.mins]] W fun e w' => e = .returned (.int .i64 E) ∧ Below W.heap.size W w' from by rw [hE]; exact grid137 g W)
  have HB := Lib.hid (show Below w.heap.size w W from by rw [hW]; exact below_box w _)
  have hb : Blk w.heap.size #[.int .i64 g.days, .int .i64 g.slots, .int .i64 g.begin_, .int .i64 g.mins] 90 W := by rw [hW]; exact Blk.new w _ _
  have c0 : W.cell? ⟨w.heap.size, 0, none⟩ = some (.int .i64 g.days) := hb.cell 0
  have c1 : W.cell? ⟨w.heap.size, 1, none⟩ = some (.int .i64 g.slots) := hb.cell 1
  have c2 : W.cell? ⟨w.heap.size, 2, none⟩ = some (.int .i64 g.begin_) := hb.cell 2
  have c3 : W.cell? ⟨w.heap.size, 3, none⟩ = some (.int .i64 g.mins) := hb.cell 3
  unfold grdVal
  clear hE hb; go_enter Tryz.func211, Tryz.ntmps211
  go_upto_region 1 with (fail)
  rw [← hW]; clear hW; go_wp2_with fail
  refine HC.out.mono ?_
  rintro e w1 ⟨rfl, hb1⟩; have HL := Lib.hid (HB.out.trans (hb1.mono HB.out.size))
  clear hb1 HC HB c0 c1 c2 c3; by_cases h0 : E = 0
  · have h1 : (E == 0) = true := by simp [h0]
    go_wp2_with fail
    all_goals
      go_ret; refine ⟨ret_bool ?_, HL.out⟩
      first | exact (decide_eq_false (by omega)).symm | exact decide_eq_decide.2 (by omega) | (simp; omega)
  · have h1 : (E == 0) = false := by simp [h0]
    go_wp2_with fail
    all_goals
      go_ret; refine ⟨ret_bool ?_, HL.out⟩
      exact (decide_eq_false (fun h => h0 h.1)).symm
set_option maxHeartbeats 4000000 in
set_option maxRecDepth 100000 in
theorem sound204 (x : Tt.Tim) (w : World) : Calls Tryz.prog 204 #[timVal x] w fun e w' => e = .returned (.bool (Tt.soundB x)) ∧ Below w.heap.size w w' := by
  obtain ⟨k, d, s, l⟩ := x; obtain ⟨B, hB⟩ : ∃ B, B = Tt.soundB ⟨k, d, s, l⟩ := ⟨_, rfl⟩
  rw [← hB]; obtain ⟨C, hC⟩ : ∃ C, C = Tt.weeksB k 20 := ⟨_, rfl⟩
  have HB := Lib.hid (show B = (Tt.weeksB k 20 && decide (0 ≤ d ∧ d < 7 ∧ 0 ≤ s ∧ s < 24 ∧ 1 ≤ l ∧ s + l ≤ 24)) from hB)
  rw [← hC] at HB
  have HC := Lib.hid hC; have HW := Lib.hid (below_box w (.cells #[.int .i64 k, .int .i64 d, .int .i64 s, .int .i64 l] 105))
  clear hB hC; unfold timVal
  by_cases hr : 0 ≤ s ∧ s ≤ 24 ∧ 1 ≤ l ∧ l ≤ 24
  · obtain ⟨a0, a1, a2, a3⟩ := hr; have hw1 : wrap64 (24 - s) = 24 - s := by unfold RowKit.wrap64; omega
    have hw2 : wrap64 (s + l) = s + l := by unfold RowKit.wrap64; omega
    go_enter Tryz.func204, Tryz.ntmps204
    go_wp2_with fail
    all_goals
      refine (weeks205 _ _ _).mono ?_
      rintro e w1 ⟨rfl, hx⟩; rw [hx, ← HC.out]
      clear hx w1; cases C
    all_goals go_wp2_with fail
    all_goals
      go_ret; refine ⟨ret_bool ?_, HW.out⟩
      rw [HB.out]
      first | rfl | exact (decide_eq_false (by omega)).symm | exact (decide_eq_true (by omega)).symm | exact decide_eq_decide.2 (by omega)
  · go_enter Tryz.func204, Tryz.ntmps204
    go_wp2_with fail
    all_goals
      try (refine (weeks205 _ _ _).mono ?_
           rintro e w1 ⟨rfl, hx⟩; rw [hx, ← HC.out]
           clear hx w1; cases C)
    all_goals go_wp2_with fail
    all_goals first
      | (exfalso; omega)
      | (go_ret
         refine ⟨ret_bool ?_, HW.out⟩
         rw [HB.out]
         first | rfl | exact (decide_eq_false (by omega)).symm | exact decide_eq_decide.2 (by omega))
set_option maxHeartbeats 4000000 in
set_option maxRecDepth 100000 in
theorem sound212 (x : Tt.Tim) (w : World) : Calls Tryz.prog 212 #[timVal x] w fun e w' => e = .returned (.bool (Tt.soundB x)) ∧ Below w.heap.size w w' := by
  obtain ⟨k, d, s, l⟩ := x; obtain ⟨B, hB⟩ : ∃ B, B = Tt.soundB ⟨k, d, s, l⟩ := ⟨_, rfl⟩
  rw [← hB]; obtain ⟨C, hC⟩ : ∃ C, C = Tt.weeksB k 20 := ⟨_, rfl⟩
  have HB := Lib.hid (show B = (Tt.weeksB k 20 && decide (0 ≤ d ∧ d < 7 ∧ 0 ≤ s ∧ s < 24 ∧ 1 ≤ l ∧ s + l ≤ 24)) from hB)
  rw [← hC] at HB
  have HC := Lib.hid hC; have HW := Lib.hid (below_box w (.cells #[.int .i64 k, .int .i64 d, .int .i64 s, .int .i64 l] 105))
  clear hB hC; unfold timVal
  by_cases hr : 0 ≤ s ∧ s ≤ 24 ∧ 1 ≤ l ∧ l ≤ 24
  · obtain ⟨a0, a1, a2, a3⟩ := hr; have hw1 : wrap64 (24 - s) = 24 - s := by unfold RowKit.wrap64; omega
    have hw2 : wrap64 (s + l) = s + l := by unfold RowKit.wrap64; omega
    go_enter Tryz.func212, Tryz.ntmps212
    go_wp2_with fail
    all_goals
      refine (weeks213 _ _ _).mono ?_
      rintro e w1 ⟨rfl, hx⟩; rw [hx, ← HC.out]
      clear hx w1; cases C
    all_goals go_wp2_with fail
    all_goals
      go_ret; refine ⟨ret_bool ?_, HW.out⟩
      rw [HB.out]
      first | rfl | exact (decide_eq_false (by omega)).symm | exact (decide_eq_true (by omega)).symm | exact decide_eq_decide.2 (by omega)
  · go_enter Tryz.func212, Tryz.ntmps212
    go_wp2_with fail
    all_goals
      try (refine (weeks213 _ _ _).mono ?_
           rintro e w1 ⟨rfl, hx⟩; rw [hx, ← HC.out]
           clear hx w1; cases C)
    all_goals go_wp2_with fail
    all_goals first
      | (exfalso; omega)
      | (go_ret
         refine ⟨ret_bool ?_, HW.out⟩
         rw [HB.out]
         first | rfl | exact (decide_eq_false (by omega)).symm | exact decide_eq_decide.2 (by omega))
set_option maxHeartbeats 4000000 in
set_option maxRecDepth 100000 in
theorem fits134 (g : Tt.Grd) (n : Int) (x : Tt.Tim) (w : World) : Calls Tryz.prog 134 #[grdVal g, .int .i64 n, timVal x] w fun e w' => e = .returned (.int .i64 (Tt.fitsV g n x)) ∧ Below w.heap.size w w' := by
  obtain ⟨E, hE⟩ : ∃ E, E = Tt.fitsV g n x := ⟨_, rfl⟩
  rw [← hE]; have HE := Lib.hid (show E = (if Tt.gridV g = 0 ∧ 1 ≤ n ∧ n ≤ 20 then (if Tt.soundB x = true ∧ Tt.weeksB x.weeks n = true ∧ x.day < g.days ∧ x.start + x.len ≤ g.slots then 0 else 14) else 1) from hE)
  have HGR : Hid (Tt.gridV g = 0 → 1 ≤ g.slots ∧ g.slots ≤ 24 ∧ 1 ≤ g.days ∧ g.days ≤ 7) := Lib.hid (fun h => by unfold Tt.gridV at h; split at h <;> first | (cases h; done) | omega)
  obtain ⟨G, hG⟩ : ∃ G : Bool, G = decide (Tt.gridV g = 0 ∧ 1 ≤ n ∧ n ≤ 20) := ⟨_, rfl⟩
  obtain ⟨S, hS⟩ : ∃ S : Bool, S = Tt.soundB x := ⟨_, rfl⟩
  obtain ⟨K, hK⟩ : ∃ K : Bool, K = Tt.weeksB x.weeks n := ⟨_, rfl⟩
  obtain ⟨P, hP⟩ : ∃ P, P = w.heap.size := ⟨_, rfl⟩
  obtain ⟨Q, hQ⟩ : ∃ Q, Q = w.heap.size + 1 := ⟨_, rfl⟩
  obtain ⟨W, hW⟩ : ∃ W, W = (w.alloc (.cells #[.int .i64 g.days, .int .i64 g.slots, .int .i64 g.begin_, .int .i64 g.mins] 90)).alloc (.cells #[.int .i64 x.weeks, .int .i64 x.day, .int .i64 x.start, .int .i64 x.len] 105) := ⟨_, rfl⟩
  have HC1 := Lib.hid (show ∀ W, Calls Tryz.prog 203 #[.agg #[.int .i64 g.days, .int .i64 g.slots, .int .i64 g.begin_, .int .i64 g.mins], .int .i64 n] W fun e w' => e = .returned (.bool G) ∧ Below W.heap.size W w' from fun W => by rw [hG]; exact week203 g n W)
  have HC2 := Lib.hid (show ∀ W, Calls Tryz.prog 204 #[.agg #[.int .i64 x.weeks, .int .i64 x.day, .int .i64 x.start, .int .i64 x.len]] W fun e w' => e = .returned (.bool S) ∧ Below W.heap.size W w' from fun W => by rw [hS]; exact sound204 x W)
  have HC3 := Lib.hid (show ∀ W, Calls Tryz.prog 205 #[.int .i64 x.weeks, .int .i64 n] W fun e w' => e = .returned (.bool K) ∧ w' = W from fun W => by rw [hK]; exact weeks205 _ _ W)
  have HB := Lib.hid (show Below w.heap.size w W from by rw [hW]; exact (below_box w _).trans ((below_box _ _).mono (by simp)))
  have HBP := Lib.hid (show Blk P #[.int .i64 g.days, .int .i64 g.slots, .int .i64 g.begin_, .int .i64 g.mins] 90 W from by rw [hW, hP]; exact (Blk.new w _ _).alloc _)
  have HBQ := Lib.hid (show Blk Q #[.int .i64 x.weeks, .int .i64 x.day, .int .i64 x.start, .int .i64 x.len] 105 W from by rw [hW, hQ]; exact Blk.new' _ _ _ (by simp))
  have HG := Lib.hid hG; have HS := Lib.hid hS; have HK := Lib.hid hK; have a0 : W.cell? ⟨P, 0, none⟩ = some (.int .i64 g.days) := HBP.out.cell 0
  have a1 : W.cell? ⟨P, 1, none⟩ = some (.int .i64 g.slots) := HBP.out.cell 1
  have a2 : W.cell? ⟨P, 2, none⟩ = some (.int .i64 g.begin_) := HBP.out.cell 2
  have a3 : W.cell? ⟨P, 3, none⟩ = some (.int .i64 g.mins) := HBP.out.cell 3
  unfold grdVal timVal
  clear hE hG hS hK; go_enter Tryz.func134, Tryz.ntmps134
  go_upto_region 1 with (fail)
  rw [← hW, ← hQ, ← hP]; clear hW hQ hP; go_wp2_with fail
  refine (HC1.out _).mono ?_
  rintro e w1 ⟨rfl, hb1⟩; have HL := Lib.hid (HB.out.trans (hb1.mono HB.out.size))
  have HP1 := Lib.hid (HBP.out.below hb1 HBP.out.lt)
  have HQ1 := Lib.hid (HBQ.out.below hb1 HBQ.out.lt)
  clear hb1 HC1 HB HBP HBQ a0 a1 a2 a3; cases G
  · have hE1 : E = 1 := by rw [HE.out, if_neg (of_decide_eq_false HG.out.symm)]
    have HE1 := Lib.hid hE1; clear hE1; go_wp2_with fail
    go_ret; exact ⟨ret_int HE1.out.symm, HL.out⟩
  · have hg := of_decide_eq_true HG.out.symm
    have HGG := Lib.hid hg; obtain ⟨g1, g2, g3, g4⟩ := HGR.out hg.1
    clear hg; have q0 : w1.cell? ⟨Q, 0, none⟩ = some (.int .i64 x.weeks) := HQ1.out.cell 0
    have q1 : w1.cell? ⟨Q, 1, none⟩ = some (.int .i64 x.day) := HQ1.out.cell 1
    have q2 : w1.cell? ⟨Q, 2, none⟩ = some (.int .i64 x.start) := HQ1.out.cell 2
    have q3 : w1.cell? ⟨Q, 3, none⟩ = some (.int .i64 x.len) := HQ1.out.cell 3
    go_wp2_with fail
    refine (HC2.out _).mono ?_
    rintro e w2 ⟨rfl, hb2⟩; have HL2 := Lib.hid (HL.out.trans (hb2.mono HL.out.size))
    have HP2 := Lib.hid (HP1.out.below hb2 HP1.out.lt)
    have HQ2 := Lib.hid (HQ1.out.below hb2 HQ1.out.lt)
    clear hb2 HC2 HL HP1 HQ1 q0 q1 q2 q3; have a0 : w2.cell? ⟨P, 0, none⟩ = some (.int .i64 g.days) := HP2.out.cell 0
    have a1 : w2.cell? ⟨P, 1, none⟩ = some (.int .i64 g.slots) := HP2.out.cell 1
    have q0 : w2.cell? ⟨Q, 0, none⟩ = some (.int .i64 x.weeks) := HQ2.out.cell 0
    have q1 : w2.cell? ⟨Q, 1, none⟩ = some (.int .i64 x.day) := HQ2.out.cell 1
    have q2 : w2.cell? ⟨Q, 2, none⟩ = some (.int .i64 x.start) := HQ2.out.cell 2
    have q3 : w2.cell? ⟨Q, 3, none⟩ = some (.int .i64 x.len) := HQ2.out.cell 3
    cases S
    · have HE1 := Lib.hid (show E = 14 from by rw [HE.out, if_pos HGG.out, if_neg (fun h => by rw [← HS.out] at h; cases h.1)])
      go_wp2_with fail
      go_ret; exact ⟨ret_int HE1.out.symm, HL2.out⟩
    · obtain ⟨s1, s2, s3, s4, s5, s6, s7⟩ := (Tt.soundB_iff x).1 HS.out.symm
      have hw : wrap64 (x.start + x.len) = x.start + x.len := by unfold RowKit.wrap64; omega
      have HS1 := Lib.hid s1; clear s1; go_wp2_with fail
      refine (HC3.out _).mono ?_
      rintro e w3 ⟨rfl, hx⟩; rw [hx]
      clear hx w3 HC3; cases K
      · have HE1 := Lib.hid (show E = 14 from by rw [HE.out, if_pos HGG.out, if_neg (fun h => by rw [← HK.out] at h; cases h.2.1)])
        go_wp2_with fail
        go_ret; exact ⟨ret_int HE1.out.symm, HL2.out⟩
      · have HE1 := Lib.hid (show E = if x.day < g.days ∧ x.start + x.len ≤ g.slots then 0 else 14 from by
          rw [HE.out, if_pos HGG.out]
          by_cases h : x.day < g.days ∧ x.start + x.len ≤ g.slots
          · rw [if_pos h, if_pos ⟨HS.out.symm, HK.out.symm, h.1, h.2⟩]
          · rw [if_neg h, if_neg (fun hh => h hh.2.2)])
        go_wp2_with fail
        all_goals
          go_ret; refine ⟨ret_int ?_, HL2.out⟩
          rw [HE1.out]
          first | rw [if_pos (by omega)] | rw [if_neg (by omega)]
set_option maxHeartbeats 4000000 in
set_option maxRecDepth 100000 in
theorem fits139 (g : Tt.Grd) (n : Int) (x : Tt.Tim) (w : World) : Calls Tryz.prog 139 #[grdVal g, .int .i64 n, timVal x] w fun e w' => e = .returned (.int .i64 (Tt.fitsV g n x)) ∧ Below w.heap.size w w' := by
  obtain ⟨E, hE⟩ : ∃ E, E = Tt.fitsV g n x := ⟨_, rfl⟩
  rw [← hE]; have HE := Lib.hid (show E = (if Tt.gridV g = 0 ∧ 1 ≤ n ∧ n ≤ 20 then (if Tt.soundB x = true ∧ Tt.weeksB x.weeks n = true ∧ x.day < g.days ∧ x.start + x.len ≤ g.slots then 0 else 14) else 1) from hE)
  have HGR : Hid (Tt.gridV g = 0 → 1 ≤ g.slots ∧ g.slots ≤ 24 ∧ 1 ≤ g.days ∧ g.days ≤ 7) := Lib.hid (fun h => by unfold Tt.gridV at h; split at h <;> first | (cases h; done) | omega)
  obtain ⟨G, hG⟩ : ∃ G : Bool, G = decide (Tt.gridV g = 0 ∧ 1 ≤ n ∧ n ≤ 20) := ⟨_, rfl⟩
  obtain ⟨S, hS⟩ : ∃ S : Bool, S = Tt.soundB x := ⟨_, rfl⟩
  obtain ⟨K, hK⟩ : ∃ K : Bool, K = Tt.weeksB x.weeks n := ⟨_, rfl⟩
  obtain ⟨P, hP⟩ : ∃ P, P = w.heap.size := ⟨_, rfl⟩
  obtain ⟨Q, hQ⟩ : ∃ Q, Q = w.heap.size + 1 := ⟨_, rfl⟩
  obtain ⟨W, hW⟩ : ∃ W, W = (w.alloc (.cells #[.int .i64 g.days, .int .i64 g.slots, .int .i64 g.begin_, .int .i64 g.mins] 90)).alloc (.cells #[.int .i64 x.weeks, .int .i64 x.day, .int .i64 x.start, .int .i64 x.len] 105) := ⟨_, rfl⟩
  have HC1 := Lib.hid (show ∀ W, Calls Tryz.prog 211 #[.agg #[.int .i64 g.days, .int .i64 g.slots, .int .i64 g.begin_, .int .i64 g.mins], .int .i64 n] W fun e w' => e = .returned (.bool G) ∧ Below W.heap.size W w' from fun W => by rw [hG]; exact week211 g n W)
  have HC2 := Lib.hid (show ∀ W, Calls Tryz.prog 212 #[.agg #[.int .i64 x.weeks, .int .i64 x.day, .int .i64 x.start, .int .i64 x.len]] W fun e w' => e = .returned (.bool S) ∧ Below W.heap.size W w' from fun W => by rw [hS]; exact sound212 x W)
  have HC3 := Lib.hid (show ∀ W, Calls Tryz.prog 213 #[.int .i64 x.weeks, .int .i64 n] W fun e w' => e = .returned (.bool K) ∧ w' = W from fun W => by rw [hK]; exact weeks213 _ _ W)
  have HB := Lib.hid (show Below w.heap.size w W from by rw [hW]; exact (below_box w _).trans ((below_box _ _).mono (by simp)))
  have HBP := Lib.hid (show Blk P #[.int .i64 g.days, .int .i64 g.slots, .int .i64 g.begin_, .int .i64 g.mins] 90 W from by rw [hW, hP]; exact (Blk.new w _ _).alloc _)
  have HBQ := Lib.hid (show Blk Q #[.int .i64 x.weeks, .int .i64 x.day, .int .i64 x.start, .int .i64 x.len] 105 W from by rw [hW, hQ]; exact Blk.new' _ _ _ (by simp))
  have HG := Lib.hid hG; have HS := Lib.hid hS; have HK := Lib.hid hK; have a0 : W.cell? ⟨P, 0, none⟩ = some (.int .i64 g.days) := HBP.out.cell 0
  have a1 : W.cell? ⟨P, 1, none⟩ = some (.int .i64 g.slots) := HBP.out.cell 1
  have a2 : W.cell? ⟨P, 2, none⟩ = some (.int .i64 g.begin_) := HBP.out.cell 2
  have a3 : W.cell? ⟨P, 3, none⟩ = some (.int .i64 g.mins) := HBP.out.cell 3
  unfold grdVal timVal
  clear hE hG hS hK; go_enter Tryz.func139, Tryz.ntmps139
  go_upto_region 1 with (fail)
  rw [← hW, ← hQ, ← hP]; clear hW hQ hP; go_wp2_with fail
  refine (HC1.out _).mono ?_
  rintro e w1 ⟨rfl, hb1⟩; have HL := Lib.hid (HB.out.trans (hb1.mono HB.out.size))
  have HP1 := Lib.hid (HBP.out.below hb1 HBP.out.lt)
  have HQ1 := Lib.hid (HBQ.out.below hb1 HBQ.out.lt)
  clear hb1 HC1 HB HBP HBQ a0 a1 a2 a3; cases G
  · have hE1 : E = 1 := by rw [HE.out, if_neg (of_decide_eq_false HG.out.symm)]
    have HE1 := Lib.hid hE1; clear hE1; go_wp2_with fail
    go_ret; exact ⟨ret_int HE1.out.symm, HL.out⟩
  · have hg := of_decide_eq_true HG.out.symm
    have HGG := Lib.hid hg; obtain ⟨g1, g2, g3, g4⟩ := HGR.out hg.1
    clear hg; have q0 : w1.cell? ⟨Q, 0, none⟩ = some (.int .i64 x.weeks) := HQ1.out.cell 0
    have q1 : w1.cell? ⟨Q, 1, none⟩ = some (.int .i64 x.day) := HQ1.out.cell 1
    have q2 : w1.cell? ⟨Q, 2, none⟩ = some (.int .i64 x.start) := HQ1.out.cell 2
    have q3 : w1.cell? ⟨Q, 3, none⟩ = some (.int .i64 x.len) := HQ1.out.cell 3
    go_wp2_with fail
    refine (HC2.out _).mono ?_
    rintro e w2 ⟨rfl, hb2⟩; have HL2 := Lib.hid (HL.out.trans (hb2.mono HL.out.size))
    have HP2 := Lib.hid (HP1.out.below hb2 HP1.out.lt)
    have HQ2 := Lib.hid (HQ1.out.below hb2 HQ1.out.lt)
    clear hb2 HC2 HL HP1 HQ1 q0 q1 q2 q3; have a0 : w2.cell? ⟨P, 0, none⟩ = some (.int .i64 g.days) := HP2.out.cell 0
    have a1 : w2.cell? ⟨P, 1, none⟩ = some (.int .i64 g.slots) := HP2.out.cell 1
    have q0 : w2.cell? ⟨Q, 0, none⟩ = some (.int .i64 x.weeks) := HQ2.out.cell 0
    have q1 : w2.cell? ⟨Q, 1, none⟩ = some (.int .i64 x.day) := HQ2.out.cell 1
    have q2 : w2.cell? ⟨Q, 2, none⟩ = some (.int .i64 x.start) := HQ2.out.cell 2
    have q3 : w2.cell? ⟨Q, 3, none⟩ = some (.int .i64 x.len) := HQ2.out.cell 3
    cases S
    · have HE1 := Lib.hid (show E = 14 from by rw [HE.out, if_pos HGG.out, if_neg (fun h => by rw [← HS.out] at h; cases h.1)])
      go_wp2_with fail
      go_ret; exact ⟨ret_int HE1.out.symm, HL2.out⟩
    · obtain ⟨s1, s2, s3, s4, s5, s6, s7⟩ := (Tt.soundB_iff x).1 HS.out.symm
      have hw : wrap64 (x.start + x.len) = x.start + x.len := by unfold RowKit.wrap64; omega
      have HS1 := Lib.hid s1; clear s1; go_wp2_with fail
      refine (HC3.out _).mono ?_
      rintro e w3 ⟨rfl, hx⟩; rw [hx]
      clear hx w3 HC3; cases K
      · have HE1 := Lib.hid (show E = 14 from by rw [HE.out, if_pos HGG.out, if_neg (fun h => by rw [← HK.out] at h; cases h.2.1)])
        go_wp2_with fail
        go_ret; exact ⟨ret_int HE1.out.symm, HL2.out⟩
      · have HE1 := Lib.hid (show E = if x.day < g.days ∧ x.start + x.len ≤ g.slots then 0 else 14 from by
          rw [HE.out, if_pos HGG.out]
          by_cases h : x.day < g.days ∧ x.start + x.len ≤ g.slots
          · rw [if_pos h, if_pos ⟨HS.out.symm, HK.out.symm, h.1, h.2⟩]
          · rw [if_neg h, if_neg (fun hh => h hh.2.2)])
        go_wp2_with fail
        all_goals
          go_ret; refine ⟨ret_int ?_, HL2.out⟩
          rw [HE1.out]
          first | rw [if_pos (by omega)] | rw [if_neg (by omega)]
end Go.Proofs.YtageielcdebjlaaGreatDoor
