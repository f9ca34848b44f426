/- Dates: the contracts of calendar.Parts, calendar.Day and of the reference's. feed.Fold: its contract. The generators' Text: some text of the given characters. timetableref02.SameStrings: its contract; slices of strings in memory. -/
import Derived.Test.YtageielcdebjlaaGreatDoorPk1
import Derived.Test.YtageielcdebjlaaGreatDoorSerAll
import Derived.Test.YtageielcdebjlaaGreatDoorPk3
import Derived.Outline
import Derived.WalkSpells
set_option maxRecDepth 100000
set_option maxHeartbeats 40000000
namespace Go.Proofs.YtageielcdebjlaaGreatDoor
open Go.RowKit
def Lens (w : World) : Prop := ∀ i : Nat, i < 12 -> w.cell? ⟨3, i, none⟩ = some (.int .i64 (([31, 28, 31, 30, 31, 30, 31, 31, 30, 31, 30, 31] : List Int).getD i 0))
theorem Lens.below {B : Nat} {w w' : World} (h : Lens w) (hB : 3 < B) (hb : Below B w w') : Lens w' := fun i hi => (hb.cell (p := ⟨3, i, none⟩) hB).trans (h i hi)
theorem leap345 (y : Int) (w : World) (h0 : 2000 <= y) (h1 : y <= 2099) : Calls Tryz.prog 345 #[.int .i64 y] w fun e w' => e = .returned (.bool (y % 4 == 0)) /\ w' = w := by
 have m0 := Int.emod_nonneg y (show (4 : Int) ≠ 0 by omega); have m1 := Int.emod_lt_of_pos y (show (0 : Int) < 4 by omega); by_cases hm : y % 4 = 0
 ·by_cases hc : y % 100 = 0
  ·have e : y = 2000 := by omega
   subst e; go_enter Tryz.func345, Tryz.ntmps345; go_wp2_with fail; go_ret; exact ⟨rfl, rfl⟩
  ·have hb : (y % 4 == 0) = true := by simp [hm]
   have hd : (y % 100 == 0) = false := by simp [hc]
   have m2 := Int.emod_nonneg y (show (100 : Int) ≠ 0 by omega); rw [hb]; go_enter Tryz.func345, Tryz.ntmps345; go_wp2_with fail; go_ret; exact ⟨rfl, rfl⟩
 ·have hb : (y % 4 == 0) = false := by simp [hm]
  rw [hb]; go_enter Tryz.func345, Tryz.ntmps345; go_wp2_with fail; go_ret; exact ⟨rfl, rfl⟩
theorem days317 (y : Int) (w : World) (h0 : 2000 <= y) (h1 : y <= 2099) : Calls Tryz.prog 317 #[.int .i64 y] w fun e w' => e = .returned (.int .i64 (Tt.ylen y)) /\ w' = w := by
 have HY := Lh (show Tt.ylen y = if (y % 4 == 0) = true then 366 else 365 from by unfold Tt.ylen; simp); go_enter Tryz.func317, Tryz.ntmps317; go_wp2_with fail; refine (leap345 y w h0 h1).mono ?_; rintro e w1 ⟨rfl, hw⟩; rw [hw]; clear hw w1; cases hb : (y % 4 == 0)
 ·go_wp2_with fail; go_ret; exact ⟨ret_int (by rw [HY.out, hb]; rfl), rfl⟩
 ·go_wp2_with fail; go_ret; exact ⟨ret_int (by rw [HY.out, hb]; rfl), rfl⟩
theorem length316 (y m : Int) (w : World) (h0 : 2000 <= y) (h1 : y <= 2099) (m0 : 1 <= m) (m1 : m <= 12) (hL : Lens w) : Calls Tryz.prog 316 #[.int .i64 y, .int .i64 m] w fun e w' => e = .returned (.int .i64 (Tt.mlen y m)) /\ w' = w := by
  by_cases h2 : m = 2
  · subst h2; have HY := Lh (show Tt.mlen y 2 = if (y % 4 == 0) = true then 29 else 28 from by unfold Tt.mlen; simp); have c1 := hL 1 (by omega); simp only [List.getD_cons_succ, List.getD_cons_zero] at c1; go_enter Tryz.func316, Tryz.ntmps316; go_wp2_with fail; refine (leap345 y w h0 h1).mono ?_; rintro e w1 ⟨rfl, hw⟩; rw [hw]; clear hw w1; cases hb : (y % 4 == 0)
    · go_wp2_with fail; go_ret; exact ⟨ret_int (by rw [HY.out, hb]; rfl), rfl⟩
    · go_wp2_with fail; go_ret; exact ⟨ret_int (by rw [HY.out, hb]; rfl), rfl⟩
  · have hb : (m == 2) = false := by simp [h2]
    obtain ⟨k, hk⟩ : ∃ k : Nat, m = (k : Int) + 1 := ⟨(m - 1).toNat, by omega⟩
    have hk12 : k < 12 := by omega
    have HY := Lh (show Tt.mlen y m = (([31, 28, 31, 30, 31, 30, 31, 31, 30, 31, 30, 31] : List Int).getD k 0) from by
      obtain ⟨l1, l2, l3, l4, l5, l6, l7, l8, l9, l10, l11, l12⟩ := Tt.mlens y; rcases (show m = 1 ∨ m = 3 ∨ m = 4 ∨ m = 5 ∨ m = 6 ∨ m = 7 ∨ m = 8 ∨ m = 9 ∨ m = 10 ∨ m = 11 ∨ m = 12 by omega) with e | e | e | e | e | e | e | e | e | e | e
      all_goals (have hk : k = (m - 1).toNat := by omega
                 subst e; subst hk; first | exact l1 | exact l3 | exact l4 | exact l5 | exact l6 | exact l7 | exact l8 | exact l9 | exact l10 | exact l11 | exact l12))
    have c1 := hL k hk12; generalize (([31, 28, 31, 30, 31, 30, 31, 31, 30, 31, 30, 31] : List Int).getD k 0) = z at c1 HY; subst hk; have hk1 : (k : Int) + 1 - 1 = k := by omega
    go_enter Tryz.func316, Tryz.ntmps316; go_wp2_with fail; go_ret; exact ⟨ret_int HY.out.symm, rfl⟩
theorem date_bd {day : Int} (h1 : day <= 36524) {y : Int} {k : Nat} (hy : y = 2000 + (k : Int)) (hr : 0 <= day - Tt.yb k) : y <= 2099 := by
 have := Tt.yb_closed k; omega
theorem date_made {day y m r : Int} {k j : Nat} (hy : y = 2000 + (k : Int)) (hm : m = 1 + (j : Int)) (y1 : y <= 2099) (hj : j <= 11) (hr : r = day - Tt.yb k - Tt.mb y j) (r0 : 0 <= r) (r1 : r < Tt.mlen y m) : Tt.IsDate day y m (r + 1) := by
 refine ⟨by omega, y1, by omega, by omega, by omega, by omega, ?_⟩; rw [show (y - 2000).toNat = k by omega, show (m - 1).toNat = j by omega]; omega
theorem month_last {y r : Int} {j : Nat} (hj : j <= 11) (hr : r < Tt.ylen y) (h : Tt.mlen y (1 + (j : Int)) <= r - Tt.mb y j) : j + 1 <= 11 /\ Tt.mb y (j + 1) = Tt.mb y j + Tt.mlen y (1 + (j : Int)) := by
 have e : Tt.mb y (j + 1) = Tt.mb y j + Tt.mlen y (1 + (j : Int)) := by rw [Tt.mb, Int.add_comm 1 (j : Int)]
 refine ⟨?_, e⟩; have h12 := (Tt.mb_all y).2.2.2.2.2.2.2.2.2.2.2.2; rcases Nat.lt_or_ge j 11 with h1 | h1
 ·omega
 ·obtain rfl : j = 11 := by omega
  rw [h12] at e; omega
theorem parts308 (day : Int) (w : World) (hL : Lens w) (h0 : 0 <= day) (h1 : day <= 36524) :
  Calls Tryz.prog 308 #[.int .i64 day] w fun e w' => e = .returned (.tuple #[.int .i64 (Tt.yOf day), .int .i64 (Tt.mOf day), .int .i64 (Tt.dOf day), .int .i64 0]) /\ w' = w := by
 have HD := Lh (show Tt.isD day = true from (Tt.isD_iff day).2 ⟨h0, h1⟩); have HL := Lh hL; clear hL; go_enter Tryz.func308, Tryz.ntmps308; go_wp2_with fail; refine (isD192 day w).mono ?_; rintro e w1 ⟨rfl, hw⟩; rw [hw, HD.out]; clear hw w1; go_wp2_with fail; go_loop [0, 2] (fun rv yv => ∃ k : Nat, rv = .int .i64 (day - Tt.yb k) /\ yv = .int .i64 (2000 + (k : Int)) /\ 0 <= day - Tt.yb k) (fun rv _ => (intOf rv).toNat)
 case atStart => exact ⟨0, by simp [Tt.yb], rfl, by simp [Tt.yb]; omega⟩
 case round =>
  obtain ⟨k, rfl, rfl, hk⟩ := hrel; have hy := date_bd h1 (y := 2000 + (k : Int)) (k := k) rfl hk; have hyl := Tt.ylen_bd (2000 + (k : Int)); have HS := Lh (show Tt.yb (k + 1) = Tt.yb k + Tt.ylen (2000 + (k : Int)) from rfl); have hyb : 0 <= Tt.yb k := by rw [Tt.yb_closed]; omega
  go_wp2_with fail; refine (days317 _ w (by omega) hy).mono ?_; rintro e w1 ⟨rfl, hw⟩; rw [hw]; clear hw w1; by_cases hge : Tt.ylen (2000 + (k : Int)) <= day - Tt.yb k
  ·have hwr : IntKind.i64.wrap (day - Tt.yb k - Tt.ylen (2000 + (k : Int))) = day - Tt.yb k - Tt.ylen (2000 + (k : Int)) := by rw [IntKind.wrap_i64]; omega
   go_wp2_with fail; refine (days317 _ w (by omega) hy).mono ?_; rintro e w1 ⟨rfl, hw⟩; rw [hw]; clear hw w1; go_wp2_with fail; go_round
   case rel => exact ⟨k + 1, by rw [HS.out]; go_num, by go_num, by rw [HS.out]; omega⟩
   case measure => simp [intOf]; omega
  ·have hlt : day - Tt.yb k < Tt.ylen (2000 + (k : Int)) := by omega
   go_wp2_with fail; obtain ⟨y, hyy⟩ : ∃ y, y = 2000 + (k : Int) := ⟨_, rfl⟩
   have HY := Lh hyy; rw [<- hyy] at hy hyl hlt ⊢; clear hyy HS hge; go_loop [0, 3] (fun rv mv => ∃ j : Nat, rv = .int .i64 (day - Tt.yb k - Tt.mb y j) /\ mv = .int .i64 (1 + (j : Int)) /\ j <= 11 /\ 0 <= day - Tt.yb k - Tt.mb y j) (fun rv _ => (intOf rv).toNat)
   case atStart => exact ⟨0, by simp [Tt.mb], rfl, by omega, by simp [Tt.mb]; omega⟩
   case round =>
    obtain ⟨j, rfl, rfl, hj, hr⟩ := hrel; have hml := Tt.mlen_bd y (1 + (j : Int)); go_wp2_with fail; refine (length316 y (1 + (j : Int)) w (by have := HY.out; omega) hy (by omega) (by omega) HL.out).mono ?_; rintro e w1 ⟨rfl, hw⟩; rw [hw]; clear hw w1; by_cases hge : Tt.mlen y (1 + (j : Int)) <= day - Tt.yb k - Tt.mb y j
    ·have HN := Lh (month_last hj hlt hge); have hmb := Tt.mb_bd y j; have hwr : IntKind.i64.wrap (day - Tt.yb k - Tt.mb y j - Tt.mlen y (1 + (j : Int))) = day - Tt.yb k - Tt.mb y j - Tt.mlen y (1 + (j : Int)) := by rw [IntKind.wrap_i64]; omega
     go_wp2_with fail; refine (length316 y (1 + (j : Int)) w (by have := HY.out; omega) hy (by omega) (by omega) HL.out).mono ?_; rintro e w1 ⟨rfl, hw⟩; rw [hw]; clear hw w1; go_wp2_with fail; go_round
     case rel => exact ⟨j + 1, by rw [HN.out.2]; go_num, by go_num, HN.out.1, by rw [HN.out.2]; omega⟩
     case measure => simp [intOf]; omega
    ·have HI := Lh (date_made HY.out rfl hy hj rfl hr (by omega)).of; have hmb := Tt.mb_bd y j; have hwr : IntKind.i64.wrap (day - Tt.yb k - Tt.mb y j + 1) = day - Tt.yb k - Tt.mb y j + 1 := by rw [IntKind.wrap_i64]; omega
     go_wp2_with fail; refine bodyPost_ret (v := .tuple #[.int .i64 y, .int .i64 (1 + (j : Int)), .int .i64 (day - Tt.yb k - Tt.mb y j + 1), .int .i64 0]) (by simp [results, Tryz.results308, go_sem]) rfl ?_; exact ⟨by rw [<- HI.out.1, <- HI.out.2.1, <- HI.out.2.2], rfl⟩
theorem long318 (y m : Int) (w : World) (h0 : 2000 <= y) (h1 : y <= 2099) : Calls Tryz.prog 318 #[.int .i64 y, .int .i64 m] w fun e w' => e = .returned (.int .i64 (Tt.mlen y m)) /\ w' = w := by
 have m0 := Int.emod_nonneg y (show (4 : Int) ≠ 0 by omega); have HY := Lh (show Tt.mlen y m = if m = 2 then (if y % 4 = 0 then 29 else 28) else if m = 4 ∨ m = 6 ∨ m = 9 ∨ m = 11 then 30 else 31 from rfl); by_cases h4 : m = 4 ∨ m = 6 ∨ m = 9 ∨ m = 11
 ·have HR := Lh (show Tt.mlen y m = 30 from by rw [HY.out, if_neg (by omega), if_pos h4]); rcases h4 with rfl | rfl | rfl | rfl
  all_goals
   go_enter Tryz.func318, Tryz.ntmps318; go_wp2_with fail; go_ret; exact ⟨ret_int HR.out.symm, rfl⟩
 ·by_cases h2 : m = 2
  ·subst h2; by_cases hm : y % 4 = 0
   ·have hb : (y % 4 == 0) = true := by simp [hm]
    have hn : (y != 2100) = true := by simp; omega
    have HR := Lh (show Tt.mlen y 2 = 29 from by rw [HY.out, if_pos rfl, if_pos hm]); go_enter Tryz.func318, Tryz.ntmps318; go_wp2_with fail; go_ret; exact ⟨ret_int HR.out.symm, rfl⟩
   ·have hb : (y % 4 == 0) = false := by simp [hm]
    have HR := Lh (show Tt.mlen y 2 = 28 from by rw [HY.out, if_pos rfl, if_neg hm]); go_enter Tryz.func318, Tryz.ntmps318; go_wp2_with fail; go_ret; exact ⟨ret_int HR.out.symm, rfl⟩
  ·have b4 : (m == 4) = false := by simp; omega
   have b6 : (m == 6) = false := by simp; omega
   have b9 : (m == 9) = false := by simp; omega
   have b11 : (m == 11) = false := by simp; omega
   have b2 : (m == 2) = false := by simp; omega
   have HR := Lh (show Tt.mlen y m = 31 from by rw [HY.out, if_neg h2, if_neg h4]); go_enter Tryz.func318, Tryz.ntmps318; go_wp2_with fail; go_ret; exact ⟨ret_int HR.out.symm, rfl⟩
theorem parts261 (day : Int) (w : World) (h0 : 0 <= day) (h1 : day <= 36524) :
  Calls Tryz.prog 261 #[.int .i64 day] w fun e w' => e = .returned (.tuple #[.int .i64 (Tt.yOf day), .int .i64 (Tt.mOf day), .int .i64 (Tt.dOf day), .int .i64 0]) /\ w' = w := by
 have HD := Lh (show Tt.isD day = true from (Tt.isD_iff day).2 ⟨h0, h1⟩); go_enter Tryz.func261, Tryz.ntmps261; go_wp2_with fail; refine (isD210 day w).mono ?_; rintro e w1 ⟨rfl, hw⟩; rw [hw, HD.out]; clear hw w1; go_wp2_with fail; go_loop [0, 6, 7] (fun rv yv mv => ∃ k j : Nat, rv = .int .i64 (day - Tt.yb k - Tt.mb (2000 + (k : Int)) j) /\ yv = .int .i64 (2000 + (k : Int)) /\ mv = .int .i64 (1 + (j : Int)) /\ j <= 11 /\ 0 <= day - Tt.yb k - Tt.mb (2000 + (k : Int)) j) (fun rv _ _ => (intOf rv).toNat)
 case atStart => exact ⟨0, 0, by simp [Tt.yb, Tt.mb], rfl, rfl, by omega, by simp [Tt.yb, Tt.mb]; omega⟩
 case round =>
  obtain ⟨k, j, rfl, rfl, rfl, hj, hr⟩ := hrel; have hb := Tt.mb_bd (2000 + (k : Int)) j; have hy := date_bd h1 (y := 2000 + (k : Int)) (k := k) rfl (by omega); have hml := Tt.mlen_bd (2000 + (k : Int)) (1 + (j : Int)); have hyl := Tt.ylen_bd (2000 + (k : Int)); have HS := Lh (show Tt.yb (k + 1) = Tt.yb k + Tt.ylen (2000 + (k : Int)) from rfl); have HM := Lh (show Tt.mb (2000 + (k : Int)) (j + 1) = Tt.mb (2000 + (k : Int)) j + Tt.mlen (2000 + (k : Int)) (1 + (j : Int)) from by rw [Tt.mb, Int.add_comm 1 (j : Int)]); go_wp2_with fail; refine (long318 _ (1 + (j : Int)) w (by omega) hy).mono ?_; rintro e w1 ⟨rfl, hw⟩; rw [hw]; clear hw w1; have hyb : 0 <= Tt.yb k := by rw [Tt.yb_closed]; omega
  by_cases hge : Tt.mlen (2000 + (k : Int)) (1 + (j : Int)) <= day - Tt.yb k - Tt.mb (2000 + (k : Int)) j
  ·have hwr : IntKind.i64.wrap (day - Tt.yb k - Tt.mb (2000 + (k : Int)) j - Tt.mlen (2000 + (k : Int)) (1 + (j : Int))) = day - Tt.yb k - Tt.mb (2000 + (k : Int)) j - Tt.mlen (2000 + (k : Int)) (1 + (j : Int)) := by rw [IntKind.wrap_i64]; omega
   by_cases hj11 : j = 11
   ·have ht : (12 : Int) < 1 + (j : Int) + 1 := by omega
    have HE := Lh (show Tt.mb (2000 + (k : Int)) j + Tt.mlen (2000 + (k : Int)) (1 + (j : Int)) = Tt.ylen (2000 + (k : Int)) from by rw [<- HM.out, hj11]; exact (Tt.mb_all _).2.2.2.2.2.2.2.2.2.2.2.2); clear hj11; go_wp2_with fail; go_round
    case rel => exact ⟨k + 1, 0, by have h1 := HE.out; rw [HS.out, Tt.mb]; congr 1; omega, by go_num, rfl, by omega, by have h1 := HE.out; rw [HS.out, Tt.mb]; omega⟩
    case measure => simp [intOf]; omega
   ·have ht : ¬ (12 : Int) < 1 + (j : Int) + 1 := by omega
    go_wp2_with fail; go_round
    case rel => exact ⟨k, j + 1, by rw [HM.out]; go_num, rfl, by go_num, by omega, by rw [HM.out]; omega⟩
    case measure => simp [intOf]; omega
  ·have HI := Lh (date_made (y := 2000 + (k : Int)) rfl rfl hy hj rfl hr (by omega)).of; have hwr : IntKind.i64.wrap (day - Tt.yb k - Tt.mb (2000 + (k : Int)) j + 1) = day - Tt.yb k - Tt.mb (2000 + (k : Int)) j + 1 := by rw [IntKind.wrap_i64]; omega
   go_wp2_with fail; refine bodyPost_ret (v := .tuple #[.int .i64 (2000 + (k : Int)), .int .i64 (1 + (j : Int)), .int .i64 (day - Tt.yb k - Tt.mb (2000 + (k : Int)) j + 1), .int .i64 0]) (by simp [results, Tryz.results261, go_sem]) rfl ?_; exact ⟨by rw [<- HI.out.1, <- HI.out.2.1, <- HI.out.2.2], rfl⟩
-- Day
theorem ret_pair {a a' b b' : Int} (h : a = a') (h2 : b = b') : Ending.returned (.tuple #[.int .i64 a, .int .i64 b]) = .returned (.tuple #[.int .i64 a', .int .i64 b']) := by rw [h, h2]
theorem day255 (y m d : Int) (w : World) (hL : Lens w) (d0 : -1000000 <= d) (d1 : d <= 1000000) :
  Calls Tryz.prog 255 #[.int .i64 y, .int .i64 m, .int .i64 d] w fun e w' => e = .returned (.tuple #[.int .i64 (Tt.dayV y m d).1, .int .i64 (Tt.dayV y m d).2]) /\ w' = w := by
 have HL := Lh hL; clear hL; by_cases hbad : y < 2000 ∨ 2099 < y ∨ m < 1 ∨ 12 < m ∨ d < 1
 ·have HR := Lh (show Tt.dayV y m d = (0, 13) from by unfold Tt.dayV; rw [if_pos (by omega)]); go_enter Tryz.func255, Tryz.ntmps255; rcases hbad with h | h | h | h | h
  ·go_wp2_with fail; go_ret2; exact ⟨ret_pair (by rw [HR.out]) (by rw [HR.out]), rfl⟩
  ·go_wp2_with fail; go_ret2; exact ⟨ret_pair (by rw [HR.out]) (by rw [HR.out]), rfl⟩
  ·by_cases h1 : y < 2000
   ·go_wp2_with fail; go_ret2; exact ⟨ret_pair (by rw [HR.out]) (by rw [HR.out]), rfl⟩
   ·by_cases h2 : 2099 < y
    all_goals
     go_wp2_with fail; go_ret2; exact ⟨ret_pair (by rw [HR.out]) (by rw [HR.out]), rfl⟩
  ·by_cases h1 : y < 2000
   ·go_wp2_with fail; go_ret2; exact ⟨ret_pair (by rw [HR.out]) (by rw [HR.out]), rfl⟩
   ·by_cases h2 : 2099 < y
    all_goals
     go_wp2_with fail; go_ret2; exact ⟨ret_pair (by rw [HR.out]) (by rw [HR.out]), rfl⟩
  ·by_cases h1 : y < 2000
   ·go_wp2_with fail; go_ret2; exact ⟨ret_pair (by rw [HR.out]) (by rw [HR.out]), rfl⟩
   ·by_cases h2 : 2099 < y
    ·go_wp2_with fail; go_ret2; exact ⟨ret_pair (by rw [HR.out]) (by rw [HR.out]), rfl⟩
    ·by_cases h3 : m < 1
     ·go_wp2_with fail; go_ret2; exact ⟨ret_pair (by rw [HR.out]) (by rw [HR.out]), rfl⟩
     ·by_cases h4 : 12 < m
      all_goals
       go_wp2_with fail; go_ret2; exact ⟨ret_pair (by rw [HR.out]) (by rw [HR.out]), rfl⟩
 ·have y0 : 2000 <= y := by omega
  have y1 : y <= 2099 := by omega
  have m0 : 1 <= m := by omega
  have m1 : m <= 12 := by omega
  have e0 : 1 <= d := by omega
  clear hbad; have hml := Tt.mlen_bd y m; go_enter Tryz.func255, Tryz.ntmps255; go_wp2_with fail; refine (length316 y m w (by omega) (by omega) (by omega) (by omega) HL.out).mono ?_; rintro e w1 ⟨rfl, hw⟩; rw [hw]; clear hw w1; by_cases hd : Tt.mlen y m < d
  ·have HR := Lh (show Tt.dayV y m d = (0, 13) from by unfold Tt.dayV; rw [if_pos (by omega)]); go_wp2_with fail; go_ret2; exact ⟨ret_pair (by rw [HR.out]) (by rw [HR.out]), rfl⟩
  ·have HR := Lh (show Tt.dayV y m d = (Tt.yb (y - 2000).toNat + Tt.mb y (m - 1).toNat + d - 1, 0) from by unfold Tt.dayV; rw [if_neg (by omega)]); have hwd : IntKind.i64.wrap (d - 1) = d - 1 := by rw [IntKind.wrap_i64]; omega
   go_wp2_with fail; go_loop [8, 9] (fun nv yv => ∃ k : Nat, nv = .int .i64 (d - 1 + Tt.yb k) /\ yv = .int .i64 (2000 + (k : Int)) /\ 2000 + (k : Int) <= y) (fun _ yv => (y - intOf yv).toNat)
   case atStart => exact ⟨0, by simp [Tt.yb], rfl, by omega⟩
   case round =>
    obtain ⟨k, rfl, rfl, hk⟩ := hrel; have hyb := Tt.yb_closed k; have hyl := Tt.ylen_bd (2000 + (k : Int)); have HS := Lh (show Tt.yb (k + 1) = Tt.yb k + Tt.ylen (2000 + (k : Int)) from rfl); by_cases hlt : 2000 + (k : Int) < y
    ·have hyb0 : 0 <= Tt.yb k /\ Tt.yb k <= 40000 := by omega
     clear hyb; have hwr : IntKind.i64.wrap (d - 1 + Tt.yb k + Tt.ylen (2000 + (k : Int))) = d - 1 + Tt.yb k + Tt.ylen (2000 + (k : Int)) := by rw [IntKind.wrap_i64]; omega
     go_wp2_with fail; refine (days317 _ w (by omega) (by omega)).mono ?_; rintro e w1 ⟨rfl, hw⟩; rw [hw]; clear hw w1; go_wp2_with fail; go_round
     case rel => exact ⟨k + 1, by rw [HS.out]; go_num, by go_num, by omega⟩
     case measure => simp [intOf]; omega
    ·have HK := Lh (show k = (y - 2000).toNat by omega); have hyb0 : 0 <= Tt.yb k /\ Tt.yb k <= 40000 := by omega
     clear hyb; go_wp2_with fail; go_loop [8, 10] (fun nv mv => ∃ j : Nat, nv = .int .i64 (d - 1 + Tt.yb k + Tt.mb y j) /\ mv = .int .i64 (1 + (j : Int)) /\ 1 + (j : Int) <= m) (fun _ mv => (m - intOf mv).toNat)
     case atStart => exact ⟨0, by simp [Tt.mb], rfl, by omega⟩
     case round =>
      obtain ⟨j, rfl, rfl, hj⟩ := hrel; have hmj := Tt.mlen_bd y (1 + (j : Int)); have hmb := Tt.mb_bd y j; have HM := Lh (show Tt.mb y (j + 1) = Tt.mb y j + Tt.mlen y (1 + (j : Int)) from by rw [Tt.mb, Int.add_comm 1 (j : Int)]); by_cases hlt2 : 1 + (j : Int) < m
      ·have hwr : IntKind.i64.wrap (d - 1 + Tt.yb k + Tt.mb y j + Tt.mlen y (1 + (j : Int))) = d - 1 + Tt.yb k + Tt.mb y j + Tt.mlen y (1 + (j : Int)) := by rw [IntKind.wrap_i64]; omega
       go_wp2_with fail; refine (length316 y (1 + (j : Int)) w (by omega) (by omega) (by omega) (by omega) HL.out).mono ?_; rintro e w1 ⟨rfl, hw⟩; rw [hw]; clear hw w1; go_wp2_with fail; go_round
       case rel => exact ⟨j + 1, by rw [HM.out]; go_num, by go_num, by omega⟩
       case measure => simp [intOf]; omega
      ·have HJ := Lh (show j = (m - 1).toNat by omega); go_wp2_with fail; go_ret2; exact ⟨ret_pair (by rw [HR.out, <- HK.out, <- HJ.out]; show _ = Tt.yb k + Tt.mb y j + d - 1; omega) (by rw [HR.out]), rfl⟩
theorem day262 (y m d : Int) (w : World) (d0 : -1000000 <= d) (d1 : d <= 1000000) :
  Calls Tryz.prog 262 #[.int .i64 y, .int .i64 m, .int .i64 d] w fun e w' => e = .returned (.tuple #[.int .i64 (Tt.dayV y m d).1, .int .i64 (Tt.dayV y m d).2]) /\ w' = w := by
 by_cases hbad : y < 2000 ∨ 2099 < y ∨ m < 1 ∨ 12 < m ∨ d < 1
 ·have HR := Lh (show Tt.dayV y m d = (0, 13) from by unfold Tt.dayV; rw [if_pos (by omega)]); go_enter Tryz.func262, Tryz.ntmps262; rcases hbad with h | h | h | h | h
  ·go_wp2_with fail; go_ret2; exact ⟨ret_pair (by rw [HR.out]) (by rw [HR.out]), rfl⟩
  ·go_wp2_with fail; go_ret2; exact ⟨ret_pair (by rw [HR.out]) (by rw [HR.out]), rfl⟩
  ·by_cases h1 : y < 2000
   ·go_wp2_with fail; go_ret2; exact ⟨ret_pair (by rw [HR.out]) (by rw [HR.out]), rfl⟩
   ·by_cases h2 : 2099 < y
    all_goals
     go_wp2_with fail; go_ret2; exact ⟨ret_pair (by rw [HR.out]) (by rw [HR.out]), rfl⟩
  ·by_cases h1 : y < 2000
   ·go_wp2_with fail; go_ret2; exact ⟨ret_pair (by rw [HR.out]) (by rw [HR.out]), rfl⟩
   ·by_cases h2 : 2099 < y
    all_goals
     go_wp2_with fail; go_ret2; exact ⟨ret_pair (by rw [HR.out]) (by rw [HR.out]), rfl⟩
  ·by_cases h1 : y < 2000
   ·go_wp2_with fail; go_ret2; exact ⟨ret_pair (by rw [HR.out]) (by rw [HR.out]), rfl⟩
   ·by_cases h2 : 2099 < y
    ·go_wp2_with fail; go_ret2; exact ⟨ret_pair (by rw [HR.out]) (by rw [HR.out]), rfl⟩
    ·by_cases h3 : m < 1
     ·go_wp2_with fail; go_ret2; exact ⟨ret_pair (by rw [HR.out]) (by rw [HR.out]), rfl⟩
     ·by_cases h4 : 12 < m
      all_goals
       go_wp2_with fail; go_ret2; exact ⟨ret_pair (by rw [HR.out]) (by rw [HR.out]), rfl⟩
 ·have y0 : 2000 <= y := by omega
  have y1 : y <= 2099 := by omega
  have m0 : 1 <= m := by omega
  have m1 : m <= 12 := by omega
  have e0 : 1 <= d := by omega
  clear hbad; have hml := Tt.mlen_bd y m; go_enter Tryz.func262, Tryz.ntmps262; go_wp2_with fail; refine (long318 y m w (by omega) (by omega)).mono ?_; rintro e w1 ⟨rfl, hw⟩; rw [hw]; clear hw w1; by_cases hd : Tt.mlen y m < d
  ·have HR := Lh (show Tt.dayV y m d = (0, 13) from by unfold Tt.dayV; rw [if_pos (by omega)]); go_wp2_with fail; go_ret2; exact ⟨ret_pair (by rw [HR.out]) (by rw [HR.out]), rfl⟩
  ·have HR := Lh (show Tt.dayV y m d = (Tt.yb (y - 2000).toNat + Tt.mb y (m - 1).toNat + d - 1, 0) from by unfold Tt.dayV; rw [if_neg (by omega)]); have hwd : IntKind.i64.wrap (d - 1) = d - 1 := by rw [IntKind.wrap_i64]; omega
   go_wp2_with fail; go_loop [8, 9] (fun nv yv => ∃ k : Nat, nv = .int .i64 (d - 1 + Tt.yb k) /\ yv = .int .i64 (2000 + (k : Int)) /\ 2000 + (k : Int) <= y) (fun _ yv => (y - intOf yv).toNat)
   case atStart => exact ⟨0, by simp [Tt.yb], rfl, by omega⟩
   case round =>
    obtain ⟨k, rfl, rfl, hk⟩ := hrel; have hyb := Tt.yb_closed k; have hyl := Tt.ylen_bd (2000 + (k : Int)); have HS := Lh (show Tt.yb (k + 1) = Tt.yb k + Tt.ylen (2000 + (k : Int)) from rfl); by_cases hlt : 2000 + (k : Int) < y
    ·have hyb0 : 0 <= Tt.yb k /\ Tt.yb k <= 40000 := by omega
     clear hyb; have hwr : IntKind.i64.wrap (d - 1 + Tt.yb k + Tt.ylen (2000 + (k : Int))) = d - 1 + Tt.yb k + Tt.ylen (2000 + (k : Int)) := by rw [IntKind.wrap_i64]; omega
     have HYL := Lh (show Tt.ylen (2000 + (k : Int)) = 337 + Tt.mlen (2000 + (k : Int)) 2 from by have := (Tt.mlens (2000 + (k : Int))).2.1; omega); rw [HYL.out] at hwr HS hyl; have hw2 : IntKind.i64.wrap (337 + Tt.mlen (2000 + (k : Int)) 2) = 337 + Tt.mlen (2000 + (k : Int)) 2 := by rw [IntKind.wrap_i64]; omega
     go_wp2_with fail; refine (long318 _ 2 w (by omega) (by omega)).mono ?_; rintro e w1 ⟨rfl, hw⟩; rw [hw]; clear hw w1; go_wp2_with fail; go_round
     case rel => exact ⟨k + 1, by rw [HS.out]; go_num, by go_num, by omega⟩
     case measure => simp [intOf]; omega
    ·have HK := Lh (show k = (y - 2000).toNat by omega); have hyb0 : 0 <= Tt.yb k /\ Tt.yb k <= 40000 := by omega
     clear hyb; go_wp2_with fail; go_loop [8, 10] (fun nv mv => ∃ j : Nat, nv = .int .i64 (d - 1 + Tt.yb k + Tt.mb y j) /\ mv = .int .i64 (1 + (j : Int)) /\ 1 + (j : Int) <= m) (fun _ mv => (m - intOf mv).toNat)
     case atStart => exact ⟨0, by simp [Tt.mb], rfl, by omega⟩
     case round =>
      obtain ⟨j, rfl, rfl, hj⟩ := hrel; have hmj := Tt.mlen_bd y (1 + (j : Int)); have hmb := Tt.mb_bd y j; have HM := Lh (show Tt.mb y (j + 1) = Tt.mb y j + Tt.mlen y (1 + (j : Int)) from by rw [Tt.mb, Int.add_comm 1 (j : Int)]); by_cases hlt2 : 1 + (j : Int) < m
      ·have hwr : IntKind.i64.wrap (d - 1 + Tt.yb k + Tt.mb y j + Tt.mlen y (1 + (j : Int))) = d - 1 + Tt.yb k + Tt.mb y j + Tt.mlen y (1 + (j : Int)) := by rw [IntKind.wrap_i64]; omega
       go_wp2_with fail; refine (long318 y (1 + (j : Int)) w (by omega) (by omega)).mono ?_; rintro e w1 ⟨rfl, hw⟩; rw [hw]; clear hw w1; go_wp2_with fail; go_round
       case rel => exact ⟨j + 1, by rw [HM.out]; go_num, by go_num, by omega⟩
       case measure => simp [intOf]; omega
      ·have HJ := Lh (show j = (m - 1).toNat by omega); go_wp2_with fail; go_ret2; exact ⟨ret_pair (by rw [HR.out, <- HK.out, <- HJ.out]; show _ = Tt.yb k + Tt.mb y j + d - 1; omega) (by rw [HR.out]), rfl⟩
end Go.Proofs.YtageielcdebjlaaGreatDoor
-- Fold
namespace Go.Proofs.YtageielcdebjlaaGreatDoor
open Go.RowKit
theorem bs_app (a b : ByteArray) : (a ++ b).data.toList = a.data.toList ++ b.data.toList := by simp
theorem bs_size (a b : ByteArray) : (a ++ b).size = a.size + b.size := by simp
theorem bs_extract_size (t : ByteArray) (a b : Nat) (h : b <= t.size) : (t.extract a b).size = b - a := by simp; omega
theorem fold_any (s : ByteArray) (w : World) (hs : s.size <= 17592186044416) :
  Calls Tryz.prog 41 #[.string s] w fun e w' => e = .returned (.string ⟨(Tt.fold s.data.toList).toArray⟩) /\ Below w.heap.size w w' := by
 have hbl : Bld w.heap.size (w.heap.size + 1) [] (w.alloc (.cells #[.pointer none, .slice none 0 0] 142)) := Bld.fresh w (w.heap.size + 1) (by omega); have hW : Below w.heap.size w (w.alloc (.cells #[.pointer none, .slice none 0 0] 142)) := (Below.refl _ w).alloc (Nat.le_refl _) _; have hS : w.heap.size + 1 <= (w.alloc (.cells #[.pointer none, .slice none 0 0] 142)).heap.size := by simp
 go_enter Tryz.func41, Tryz.ntmps41; go_wp2_with fail; go_loopw [0, 4] (fun l i wr => ∃ (t : ByteArray) (n : Nat) (acc : List UInt8), l = .string t /\ i = .int .i64 n /\ 74 <= n /\ n <= 75 /\ t.size <= s.size /\ acc.length + 4 * t.size <= 4 * s.size /\ Bld w.heap.size (w.heap.size + 1) acc wr /\ Below w.heap.size w wr /\ w.heap.size + 1 <= wr.heap.size /\ Hid (acc ++ Tt.foldGo t.data.toList.length n t.data.toList = Tt.fold s.data.toList)) (fun l _ _ => match l with | .string t => t.size | _ => 0)
 case atStart => exact ⟨s, 75, [], rfl, rfl, by omega, by omega, by omega, by simp, hbl, hW, hS, by show _ = _; simp [Tt.fold]⟩
 case round =>
  obtain ⟨t, n, acc, rfl, rfl, hn1, hn2, hts, hac, hB, hbw, hsz, HU⟩ := hrel; clear hbl hW hS; have HT := Lh (Lib.size_eq t); by_cases hlt : n < t.size
  ·have hst := Lh (Tt.foldGo_step t.data.toList.length n t.data.toList (by omega) (Nat.le_refl _) (by rw [<- HT.out]; exact hlt)); go_wp2_with fail; refine (writeString_any _ _ _ _ _ hB (by rw [bs_size, bs_size, bs_extract_size t 0 n (by omega)]; show acc.length + (n - 0 + 2 + 1) <= _; omega) (by omega)).mono ?_; rintro e w1 ⟨rfl, hB1, hbut1⟩; have hsz3 := hbut1.size; go_wp2_with fail; go_roundw
   case rel =>
    refine ⟨t.extract n t.size, 74, _, rfl, rfl, by omega, by omega, by rw [bs_extract_size t n t.size (by omega)]; omega, ?_, hB1, hbw.trans (hbut1.below (Nat.le_refl _) (by omega)), by omega, ?_⟩
    ·rw [bs_extract_size t n t.size (by omega), bs_app, bs_app, List.length_append, List.length_append, List.length_append, <- Lib.size_eq (t.extract 0 n), bs_extract_size t 0 n (by omega), show (⟨#[13, 10]⟩ : ByteArray).data.toList.length = 2 from rfl, show (⟨#[32]⟩ : ByteArray).data.toList.length = 1 from rfl]; omega
    ·show _ = _
     rw [<- HU.out, hst.out, Lib.extract_to_end, bs_app, bs_app, Lib.extract_from_zero]; simp
   case measure => simp [bs_extract_size t n t.size]; omega
  ·have hst := Lh (Tt.foldGo_end t.data.toList.length n t.data.toList (by rw [<- HT.out]; exact hlt)); go_wp2_with fail; refine (writeString_any _ _ _ _ _ hB (by rw [bs_size]; show acc.length + (t.size + 2) <= _; omega) (by omega)).mono ?_; rintro e w1 ⟨rfl, hB1, hbut1⟩; have hsz3 := hbut1.size; go_wp2_with fail; refine (string_any _ _ _ _ hB1).mono ?_; rintro e w2 ⟨rfl, hb1⟩; go_wp2_with fail; go_ret; refine ⟨ret_str ?_, (hbw.trans (hbut1.below (Nat.le_refl _) (by omega))).trans hb1⟩; rw [<- HU.out, hst.out]
end Go.Proofs.YtageielcdebjlaaGreatDoor
-- Text
namespace Go.Proofs.YtageielcdebjlaaGreatDoor
open Go.RowKit
theorem ownsRow_only {w w' : World} {B b : Nat} {e : TypeId} {size : Nat} {v : Value} {n : Nat} {xs : List Value} (h : w.ownsRow B e size v n xs) (hb : b < B) (ho : Only b w w') : w'.ownsRow B e size v n xs := by
 refine ⟨h.1, ?_⟩; rcases h.2 with h1 | ⟨g, cap, cur, r1, r2, r3, r4⟩
 ·exact .inl h1
 ·exact .inr ⟨g, cap, cur, r1, r2, (ho.2.2.2.2 g (by omega)).trans r3, r4⟩
theorem Only.but {b B : Nat} {w w' : World} (h : Only b w w') : But b B w w' := ⟨h.1, h.2.1, h.2.2.1, by rw [h.2.2.2.1]; exact Nat.le_refl _, fun k _ hk => h.2.2.2.2 k hk⟩
theorem string_of_row {w : World} {B : Nat} {v : Value} {l : List UInt8} (h : w.ownsRow B 5 1 v l.length (Lib.byteCells l)) : (convert 76 9 v).run Tryz.prog w = .ok (.string ⟨l.toArray⟩) w := by
 rcases h.2 with ⟨hv, h0⟩ | ⟨g, cap, cur, hv, r2, r3, r4⟩
 ·have : l = [] := List.eq_nil_of_length_eq_zero h0; subst this; subst hv; exact run_convert_bytes_nil w 76 5 Tryz.underlying76 Tryz.underlying5 0 0 9 Tryz.underlying9
 ·subst hv; refine run_convert_bytes_back w 76 9 5 ⟨g, 0, none⟩ cap l Tryz.underlying76 Tryz.underlying5 Tryz.underlying9 (fun j hj => ?_); exact h.cells (g := g) rfl j _ (by simp [Lib.byteCells, hj])
theorem text_any (b : Nat) (sg : ByteArray) (m : Int) (w : World) (hd : Dice b w) (h1 : 1 <= sg.size) (h2 : sg.size <= 1000) (hm : 0 <= m) (hm2 : m <= 1000) :
  Calls Tryz.prog 34 #[.pointer (some ⟨b, 0, none⟩), .string sg, .int .i64 m] w fun e w' => ∃ x : List UInt8, e = .returned (.string ⟨x.toArray⟩) /\ (x.length : Int) <= m /\ (∀ c ∈ x, c ∈ sg.data.toList) /\ Dice b w' /\ But b w.heap.size w w' := by
 obtain ⟨i0, hi, hz0, hz1, hz2⟩ := info_parts infoByte; have hblt := hd.lt; go_enter Tryz.func34, Tryz.ntmps34; go_wp2_with fail; refine (next_any b (m + 1) _ hd (by omega) (by omega)).mono ?_; rintro e w1 ⟨v0, rfl, hv0, hv1, _, hd1, ho1⟩; have hv2 : v0 <= m := by have := hv1 (by omega); omega
 obtain ⟨k0, rfl⟩ : ∃ k0 : Nat, v0 = k0 := ⟨v0.toNat, by omega⟩
 have hs1 : w.heap.size <= w1.heap.size := by rw [ho1.2.2.2.1]; exact Nat.le_refl _
 clear hv1 hv0; go_wp2_with fail; go_loopw [7, 8] (fun v n wr => ∃ (k : Nat) (acc : List UInt8), n = .int .i64 k /\ (acc.length : Int) + k <= m /\ wr.ownsRow w.heap.size 5 1 v acc.length (Lib.byteCells acc) /\ (∀ c ∈ acc, c ∈ sg.data.toList) /\ Dice b wr /\ But b w.heap.size w wr) (fun _ n _ => (intOf n).toNat)
 case atStart => exact ⟨k0, [], rfl, by simpa using hv2, World.ownsRow_nil _ _ _ _, by simp, hd1, ho1.but⟩
 case round =>
  clear hv2 hd1 ho1 hs1; obtain ⟨k, acc, rfl, hk, hown, hin, hdr, hbut⟩ := hrel; have hsz := hbut.size; by_cases hlt : 0 < k
  ·go_wp2_with fail; refine (next_any b sg.size _ hdr (by omega) (by omega)).mono ?_; rintro e w2 ⟨v1, rfl, hv0, hv1, _, hd2, ho2⟩; have hv2 := hv1 (by omega); obtain ⟨j, rfl⟩ : ∃ j : Nat, v1 = j := ⟨v1.toNat, by omega⟩
   have hown2 := ownsRow_only hown hblt ho2; have hlt2 : j < sg.size := by omega
   obtain ⟨c, hx⟩ : ∃ c : UInt8, sg[j]'hlt2 = c := ⟨_, rfl⟩
   have HC := Lh (show c ∈ sg.data.toList from by
    have := Lib.data_getElem? sg j hlt2; rw [hx] at this; exact List.mem_of_getElem? this)
   have hbut2 := hbut.trans (ho2.but (B := w.heap.size)); have hsz2 := hbut2.size; clear hv1 ho2; go_wp2_with (at_builtin; refine wpList_append_own _ rfl _ _ 76 rfl w.heap.size 5 i0 (.int .u8 0) 1 1 Tryz.underlying76 hi hz0 hz1 hz2 rfl (by decide) _ _ _ rfl (hown2.alloc _) ⟨w2.heap.size, 0, none⟩ 1 1 [.int .u8 c.toNat] rfl rfl ?c1 ?c2 ?c3 ?c4 ?c5 ?_)
   case c1 =>
    intro j u hj; match j, hj with
    | 0, hj => simp at hj; subst hj; simp [Addr.add]
   case c2 => intro u hu; simp at hu; subst hu; rfl
   case c3 => unfold maxLen; omega
   case c4 => omega
   case c5 => simp; omega
   intro v' w3 hown' hgrow _; have hblk : ∀ i, i < w.heap.size -> w3.heap[i]? = w2.heap[i]? := by
    intro i hi; rw [hgrow.block i (by simp; omega) (by intro e; have := (hown2.lt i e.symm).1; omega), Lib.alloc_old w2 _ i (by omega)]
   have hbel : Below w.heap.size w2 w3 := ⟨hgrow.os, hgrow.tape, hgrow.output, by have := hgrow.size; simp at this; omega, hblk⟩
   have hd3 := hd2.kept hblt hbel; have hbut3 := hbut2.trans (But.of_below hbel); clear hgrow hblk hbel hown hown2 hdr hbut hd2; go_wp2_with fail; go_roundw
   case rel =>
    refine ⟨k - 1, acc ++ [c], by go_num, by simp; omega, by simpa [Lib.byteCells] using hown', ?_, hd3, hbut3⟩; intro x hx; rcases List.mem_append.1 hx with h | h
    ·exact hin x h
    ·simp at h; subst h; exact HC.out
   case measure => simp [intOf]; omega
  ·have hcv := string_of_row hown; go_wp2_with fail; go_ret; exact ⟨acc, rfl, by omega, hin, hdr, hbut⟩
end Go.Proofs.YtageielcdebjlaaGreatDoor
-- Same
namespace Go.Proofs.YtageielcdebjlaaGreatDoor
open Go.RowKit
def StrAt (w : World) (ao : Option Addr) (xs : List ByteArray) : Prop := ∀ j x, xs[j]? = some x -> ∃ a, ao = some a /\ w.cell? (a.add j) = some (.string x)
theorem str_eq (x y : ByteArray) (h : x = y) : (x.toList == y.toList) = true := by rw [h]; exact beq_self_eq_true _
theorem str_ne (x y : ByteArray) (h : ¬ x = y) : (x.toList == y.toList) = false := by
 rw [beq_eq_false_iff_ne]; intro e; apply h; rw [Lib.toList_data, Lib.toList_data] at e; rw [<- Lib.mk_data x, <- Lib.mk_data y, e]
end Go.Proofs.YtageielcdebjlaaGreatDoor
