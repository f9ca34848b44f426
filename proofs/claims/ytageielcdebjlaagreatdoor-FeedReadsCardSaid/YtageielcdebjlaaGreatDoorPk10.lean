/- The texts of dates and of times: both of the reference, and the program's times. The text of the rule of a series: recurrence.Format and the reference's. Events in memory; feed.check and timetableref40.faultBehind: their contracts. Blocks and rows in memory: what a store, an append and a draw of the dice leave as it was. No function of the program in sight. Condition: none. A buffer's put once more: what else lies in memory is kept, the buffer's own row apart. -/
import Derived.Test.YtageielcdebjlaaGreatDoorPk6
import Derived.Test.YtageielcdebjlaaGreatDoorParseAll
import Derived.Test.YtageielcdebjlaaGreatDoorDaysAll
import Derived.Maps.AppendAt
import Derived.Deep.RegionHeld3
set_option maxRecDepth 100000
set_option maxHeartbeats 40000000
namespace Tt
def stampL (day start : Int) : List UInt8 := dateL day ++ [84] ++ d2 (start / 60).toNat ++ d2 (start % 60).toNat ++ [48, 48]
theorem dateL_len (day : Int) : (dateL day).length = 8 := rfl
theorem stampL_len (day start : Int) : (stampL day start).length = 15 := rfl
def stampsL (start : Int) : List Int -> List UInt8
 | [] => []
 | [d] => stampL d start
 | d :: e :: r => stampL d start ++ 44 :: stampsL start (e :: r)
theorem stampsL_snoc (start d : Int) : ∀ xs : List Int, xs ≠ [] -> stampsL start (xs ++ [d]) = stampsL start xs ++ 44 :: stampL d start
 | [], h => absurd rfl h
 | [x], _ => rfl
 | x :: y :: r, _ => by
  have := stampsL_snoc start d (y :: r) (by simp); show stampL x start ++ 44 :: stampsL start ((y :: r) ++ [d]) = _
  rw [this]; show _ = (stampL x start ++ 44 :: stampsL start (y :: r)) ++ _
  rw [List.append_assoc]; rfl
theorem stampsL_len (start : Int) : ∀ xs : List Int, (stampsL start xs).length <= 16 * xs.length
 | [] => Nat.le_refl _
 | [x] => by show (stampL x start).length <= 16; rw [stampL_len]; decide
 | x :: y :: r => by
  have := stampsL_len start (y :: r); show (stampL x start ++ 44 :: stampsL start (y :: r)).length <= _
  rw [List.length_append, stampL_len, List.length_cons]; simp only [List.length_cons] at this ⊢; omega
theorem stampsL_join (start : Int) : ∀ xs : List Int, Go.Lib.join (xs.map fun d => stampL d start) [44] = stampsL start xs
 | [] => rfl
 | [x] => by rw [List.map_cons, Go.Lib.join_cons]; show stampL x start ++ [] = _; rw [List.append_nil]; rfl
 | x :: y :: r => by
  have := stampsL_join start (y :: r); rw [List.map_cons, Go.Lib.join_cons] at this; rw [List.map_cons, Go.Lib.join_cons, List.map_cons]; show stampL x start ++ ((44 :: stampL y start) ++ Go.Lib.joinTail [44] (r.map fun d => stampL d start)) = stampL x start ++ 44 :: stampsL start (y :: r)
  rw [<- this]; rfl
theorem date_toNat {day : Int} (h0 : 0 <= day) (h1 : day <= 36524) : 2000 <= yOf day /\ yOf day <= 2099 /\ 1 <= mOf day /\ mOf day <= 12 /\ 1 <= dOf day /\ dOf day <= 31 := by
 have h := date_some h0 h1; have := mlen_bd (yOf day) (mOf day); exact ⟨h.y0, h.y1, h.m0, h.m1, h.d0, by have := h.d1; omega⟩
end Tt
namespace Go.Proofs.YtageielcdebjlaaGreatDoor
open Go.RowKit
theorem str_size {l : List UInt8} {n : Nat} (h : l.length = n) : (ByteArray.mk l.toArray).size = n := by rw [Lib.size_eq]; simpa using h
theorem ret_bytes {a b : ByteArray} (h : a.data.toList = b.data.toList) : Ending.returned (.string a) = .returned (.string b) := by
 rw [show a = b from ByteArray.ext (Array.toList_inj.mp h)]
theorem join_row {lo : Nat} {w : World} {v : Value} {xs : List ByteArray} (sep : ByteArray) (h : w.ownsRow lo 9 1 v xs.length (xs.map Value.string)) (hn : xs.length <= 100000) (hs : (Lib.join (xs.map (·.data.toList)) sep.data.toList).length <= 140737488355328) :
  Calls Tryz.prog 249 #[v, .string sep] w fun e w' => e = .returned (.string ⟨(Lib.join (xs.map (·.data.toList)) sep.data.toList).toArray⟩) /\ Below w.heap.size w w' := by
 rcases h.2 with ⟨hv, h0⟩ | ⟨g, cap, cur, hv, r2, r3, r4, r5⟩
 ·have hx : xs = [] := List.eq_nil_of_length_eq_zero h0; subst hx; subst hv; refine (Tryz.strings_Join_none none 0 sep w).mono ?_; rintro e w' ⟨rfl, rfl⟩; exact ⟨rfl, Below.refl _ _⟩
 ·have hc := h.cells (g := g) (by rw [hv]; rfl); subst hv; refine Tryz.strings_Join g 0 cap xs sep w (fun j x hj => ?_) (Array.getElem?_eq_some_iff.1 r3).1 (by omega) (by omega) hs; have := hc j (.string x) (by rw [List.getElem?_map, hj]; rfl); rw [Addr.add_lit] at this; exact this
theorem mk_bytes {a : ByteArray} {l : List UInt8} (h : a.data.toList = l) : a = ⟨l.toArray⟩ := ByteArray.ext (Array.toList_inj.mp (by rw [h]))
theorem date183 (day : Int) (w : World) (h0 : 0 <= day) (h1 : day <= 36524) : Calls Tryz.prog 183 #[.int .i64 day] w fun e w' => e = .returned (.string ⟨(Tt.dateL day).toArray⟩) /\ Below w.heap.size w w' := by
 obtain ⟨y0, y1, m0, m1, d0, d1⟩ := Tt.date_toNat h0 h1; have HR := Lh (show Tt.dateL day = Tt.d4 (Tt.yOf day).toNat ++ Tt.d2 (Tt.mOf day).toNat ++ Tt.d2 (Tt.dOf day).toNat from rfl); have HY := Lh (Tt.digR_four (n := (Tt.yOf day).toNat) (by omega)); have HM := Lh (Tt.digR_two (n := (Tt.mOf day).toNat) (by omega)); have HD := Lh (Tt.digR_two (n := (Tt.dOf day).toNat) (by omega)); go_enter Tryz.func183, Tryz.ntmps183; go_wp2_with fail; refine (parts261 day w h0 h1).mono ?_; rintro e w1 ⟨rfl, hw⟩; rw [hw]; clear hw w1; generalize Tt.yOf day = y at *; generalize Tt.mOf day = m at *; generalize Tt.dOf day = d at *; go_wp2_with fail; refine (digits259 y 4 w (by omega) (by omega) (by omega)).mono ?_; rintro e w1 ⟨rfl, hb1⟩; rw [HY.out]; obtain ⟨s1, hs1⟩ : ∃ s, s = (⟨(Tt.d4 y.toNat).toArray⟩ : ByteArray) := ⟨_, rfl⟩
 have z1 : s1.size = 4 := by rw [hs1]; rfl
 rw [<- hs1]; have HS1 := Lh hs1; have HB1 := Lh hb1; clear hs1 hb1; go_wp2_with fail; refine (digits259 m 2 w1 (by omega) (by omega) (by omega)).mono ?_; rintro e w2 ⟨rfl, hb2⟩; rw [HM.out]; obtain ⟨s2, hs2⟩ : ∃ s, s = (⟨(Tt.d2 m.toNat).toArray⟩ : ByteArray) := ⟨_, rfl⟩
 have z2 : s2.size = 2 := by rw [hs2]; rfl
 rw [<- hs2]; have HS2 := Lh hs2; have HB2 := Lh (HB1.out.trans (hb2.mono HB1.out.size)); clear hs2 hb2; go_wp2_with fail; refine (digits259 d 2 w2 (by omega) (by omega) (by omega)).mono ?_; rintro e w3 ⟨rfl, hb3⟩; rw [HD.out]; obtain ⟨s3, hs3⟩ : ∃ s, s = (⟨(Tt.d2 d.toNat).toArray⟩ : ByteArray) := ⟨_, rfl⟩
 have z3 : s3.size = 2 := by rw [hs3]; rfl
 rw [<- hs3]; have HS3 := Lh hs3; have HB3 := Lh (HB2.out.trans (hb3.mono HB2.out.size)); clear hs3 hb3; go_wp2_with fail; go_ret; exact ⟨ret_bytes (by simp only [bs_app, HS1.out, HS2.out, HS3.out, HR.out]), HB3.out⟩
theorem stamp112 (day start : Int) (w : World) (h0 : 0 <= day) (h1 : day <= 36524) (s0 : 0 <= start) (s1 : start < 1440) : Calls Tryz.prog 112 #[.int .i64 day, .int .i64 start] w fun e w' => e = .returned (.string ⟨(Tt.stampL day start).toArray⟩) /\ Below w.heap.size w w' := by
 have hq0 : 0 <= start / 60 := by omega
 have hq1 : start / 60 <= 24 := by omega
 have hr0 := Int.emod_nonneg start (show (60 : Int) ≠ 0 by omega); have hr1 := Int.emod_lt_of_pos start (show (0 : Int) < 60 by omega); have HR := Lh (show Tt.stampL day start = Tt.dateL day ++ [84] ++ Tt.d2 (start / 60).toNat ++ Tt.d2 (start % 60).toNat ++ [48, 48] from rfl); have HQ := Lh (Tt.decim_two (n := (start / 60).toNat) (by omega)); have HM := Lh (Tt.decim_two (n := (start % 60).toNat) (by omega)); go_enter Tryz.func112, Tryz.ntmps112; go_wp2_with fail; refine (date183 day w h0 h1).mono ?_; rintro e w1 ⟨rfl, hb1⟩; obtain ⟨s1, hs1⟩ : ∃ s, s = (⟨(Tt.dateL day).toArray⟩ : ByteArray) := ⟨_, rfl⟩
 have z1 : s1.size = 8 := by rw [hs1]; rfl
 rw [<- hs1]; have HS1 := Lh hs1; have HB1 := Lh hb1; clear hs1 hb1; go_wp2_with fail; refine (decimal110 (start / 60) 2 w1 hq0 (by omega) (by omega) (by omega)).mono ?_; rintro e w2 ⟨rfl, hb2⟩; rw [show (2 : Int).toNat = 2 from rfl, HQ.out]; obtain ⟨s2, hs2⟩ : ∃ s, s = (⟨(Tt.d2 (start / 60).toNat).toArray⟩ : ByteArray) := ⟨_, rfl⟩
 have z2 : s2.size = 2 := by rw [hs2]; rfl
 rw [<- hs2]; have HS2 := Lh hs2; have HB2 := Lh (HB1.out.trans (hb2.mono HB1.out.size)); clear hs2 hb2; go_wp2_with fail; refine (decimal110 (start % 60) 2 w2 hr0 (by omega) (by omega) (by omega)).mono ?_; rintro e w3 ⟨rfl, hb3⟩; rw [show (2 : Int).toNat = 2 from rfl, HM.out]; obtain ⟨s3, hs3⟩ : ∃ s, s = (⟨(Tt.d2 (start % 60).toNat).toArray⟩ : ByteArray) := ⟨_, rfl⟩
 have z3 : s3.size = 2 := by rw [hs3]; rfl
 rw [<- hs3]; have HS3 := Lh hs3; have HB3 := Lh (HB2.out.trans (hb3.mono HB2.out.size)); clear hs3 hb3; go_wp2_with fail; go_ret; exact ⟨ret_bytes (by simp only [bs_app, HS1.out, HS2.out, HS3.out, HR.out]), HB3.out⟩
theorem stamps113 (xs : List Int) (ao : Option Addr) (c : Nat) (start : Int) (B : Nat) (w : World) (hB : B <= w.heap.size) (hI : Ints B w ao xs) (hn : xs.length <= 1000) (hd : ∀ d ∈ xs, 0 <= d /\ d <= 36524) (s0 : 0 <= start) (s1 : start < 1440) :
  Calls Tryz.prog 113 #[.slice ao xs.length c, .int .i64 start] w fun e w' => e = .returned (.string ⟨(Tt.stampsL start xs).toArray⟩) /\ Below w.heap.size w w' := by
 have HI := Lh hI; have HDD := Lh hd; obtain ⟨n, hnn⟩ : ∃ n, n = xs.length := ⟨_, rfl⟩
 have HN := Lh hnn; rw [<- hnn] at hn ⊢; clear hI hd hnn; go_enter Tryz.func113, Tryz.ntmps113; go_wp2_with fail; go_loopw [5, 6] (fun sv iv wr => ∃ (i : Nat) (s : ByteArray), sv = .string s /\ iv = .int .i64 i /\ i <= n /\ s.size <= 16 * i /\ Hid (s.data.toList = Tt.stampsL start (xs.take i)) /\ Hid (Below w.heap.size w wr)) (fun _ iv _ => n - (intOf iv).toNat)
 case atStart => exact ⟨0, ⟨#[]⟩, rfl, rfl, Nat.zero_le _, by decide, Lh rfl, Lh (Below.refl _ _)⟩
 case round =>
  obtain ⟨i, s, rfl, rfl, hi, hs, HS, HB⟩ := hrel; by_cases hlt : i < n
  ·have hx : i < xs.length := by rw [<- HN.out]; exact hlt
   have hlti : (i : Int) < n := by omega
   obtain ⟨bo, oo, hao, hbo, hcell⟩ := (HI.out.below (HB.out.mono hB)).form (by omega); obtain ⟨x, hxe⟩ : ∃ x, x = xs[i] := ⟨_, rfl⟩
   have hc := hcell i x (by rw [hxe]; exact List.getElem?_eq_getElem hx); have hxd := HDD.out x (by rw [hxe]; exact List.getElem_mem hx); have HT := Lh (show xs.take (i + 1) = xs.take i ++ [x] from by rw [List.take_succ_eq_append_getElem hx, hxe]); clear hcell hxe hbo; subst hao; by_cases hi0 : i = 0
   ·subst hi0; have HS0 := Lh (show s.data.toList = [] from HS.out); rw [Nat.add_zero] at hc; go_wp2_with fail; refine (stamp112 x start wr hxd.1 hxd.2 s0 s1).mono ?_; rintro e w1 ⟨rfl, hb1⟩; obtain ⟨s2, hs2⟩ : ∃ s, s = (⟨(Tt.stampL x start).toArray⟩ : ByteArray) := ⟨_, rfl⟩
    have z2 : s2.size = 15 := by rw [hs2]; rfl
    rw [<- hs2]; have HS2 := Lh hs2; have HB1 := Lh (HB.out.trans (hb1.mono HB.out.size)); clear hs2 hb1; go_wp2_with fail; go_roundw
    case rel => exact ⟨1, s ++ s2, rfl, by go_num, by omega, by rw [bs_size]; omega, Lh (by rw [HT.out, bs_app, HS0.out, HS2.out]; rfl), HB1⟩
    case measure => simp [intOf]; omega
   ·have hip : (0 : Int) < i := by omega
    have HSN := Lh (show Tt.stampsL start (xs.take (i + 1)) = Tt.stampsL start (xs.take i) ++ 44 :: Tt.stampL x start from by rw [HT.out]; exact Tt.stampsL_snoc start x _ (fun h => by have h2 := congrArg List.length h; rw [List.length_take, List.length_nil] at h2; omega)); clear hi0; go_wp2_with fail; refine (stamp112 x start wr hxd.1 hxd.2 s0 s1).mono ?_; rintro e w1 ⟨rfl, hb1⟩; obtain ⟨s2, hs2⟩ : ∃ s, s = (⟨(Tt.stampL x start).toArray⟩ : ByteArray) := ⟨_, rfl⟩
    have z2 : s2.size = 15 := by rw [hs2]; rfl
    rw [<- hs2]; have HS2 := Lh hs2; have HB1 := Lh (HB.out.trans (hb1.mono HB.out.size)); clear hs2 hb1; go_wp2_with fail; go_roundw
    case rel => exact ⟨i + 1, s ++ ⟨#[44]⟩ ++ s2, rfl, by go_num, by omega, by rw [bs_size, bs_size, show (⟨#[44]⟩ : ByteArray).size = 1 from rfl]; omega, Lh (by rw [HSN.out, bs_app, bs_app, HS.out, HS2.out, List.append_assoc]; rfl), HB1⟩
    case measure => simp [intOf]; omega
  ·have HE := Lh (show xs.take i = xs from by rw [List.take_of_length_le (by rw [<- HN.out]; omega)]); have hlti : ¬ (i : Int) < n := by omega
   go_wp2_with fail; go_ret; exact ⟨ret_bytes (by rw [HS.out, HE.out]), HB.out⟩
theorem times251 (xs : List Int) (ao : Option Addr) (c : Nat) (start : Int) (B : Nat) (w : World) (hB : B <= w.heap.size) (hI : Ints B w ao xs) (hn : xs.length <= 1000) (hd : ∀ d ∈ xs, 0 <= d /\ d <= 36524) (s0 : 0 <= start) (s1 : start < 1440) (hL : Lens w) (hP : Pow w) (h6 : 6 < w.heap.size) :
  Calls Tryz.prog 251 #[.slice ao xs.length c, .int .i64 start] w fun e w' => e = .returned (.string ⟨(Tt.stampsL start xs).toArray⟩) /\ Below w.heap.size w w' := by
 obtain ⟨i1, hj, hy0, hy2, hy3⟩ := info_parts infoString; have HI := Lh hI; have HDD := Lh hd; have HL := Lh hL; have HP := Lh hP; have hq0 : 0 <= start / 60 := by omega
 have hq1 : start / 60 <= 24 := by omega
 have hr0 := Int.emod_nonneg start (show (60 : Int) ≠ 0 by omega); have hr1 := Int.emod_lt_of_pos start (show (0 : Int) < 60 by omega); obtain ⟨n, hnn⟩ : ∃ n, n = xs.length := ⟨_, rfl⟩
 have HN := Lh hnn; rw [<- hnn] at hn ⊢; clear hI hd hnn hL hP; go_enter Tryz.func251, Tryz.ntmps251; go_wp2_with fail; go_loopw [5, 14] (fun ov iv wr => ∃ (i : Nat), iv = .int .i64 i /\ i <= n /\ Hid (wr.ownsRow w.heap.size 9 1 ov i ((xs.take i).map fun d => Value.string ⟨(Tt.stampL d start).toArray⟩)) /\ Hid (Below w.heap.size w wr)) (fun _ iv _ => n - (intOf iv).toNat)
 case atStart => exact ⟨0, rfl, Nat.zero_le _, Lh (World.ownsRow_nil _ _ _ _), Lh (Below.refl _ _)⟩
 case round =>
  obtain ⟨i, rfl, hi, HO, HB⟩ := hrel; have hsz := HB.out.size; by_cases hlt : i < n
  ·have hx : i < xs.length := by rw [<- HN.out]; exact hlt
   have hlti : (i : Int) < n := by omega
   obtain ⟨bo, oo, hao, hbo, hcell⟩ := (HI.out.below (HB.out.mono hB)).form (by omega); obtain ⟨x, hxe⟩ : ∃ x, x = xs[i] := ⟨_, rfl⟩
   have hc := hcell i x (by rw [hxe]; exact List.getElem?_eq_getElem hx); have hxd := HDD.out x (by rw [hxe]; exact List.getElem_mem hx); have HT := Lh (show xs.take (i + 1) = xs.take i ++ [x] from by rw [List.take_succ_eq_append_getElem hx, hxe]); clear hcell hxe hbo; subst hao; obtain ⟨y0, y1, m0, m1, d0, d1⟩ := Tt.date_toNat hxd.1 hxd.2; have HR := Lh (show Tt.stampL x start = Tt.d4 (Tt.yOf x).toNat ++ Tt.d2 (Tt.mOf x).toNat ++ Tt.d2 (Tt.dOf x).toNat ++ [84] ++ Tt.d2 (start / 60).toNat ++ Tt.d2 (start % 60).toNat ++ [48, 48] from rfl); have HY := Lh (Tt.padD_four (n := (Tt.yOf x).toNat) (by omega) (by omega)); have HM := Lh (Tt.padD_two (n := (Tt.mOf x).toNat) (by omega)); have HD := Lh (Tt.padD_two (n := (Tt.dOf x).toNat) (by omega)); have HQ := Lh (Tt.padD_two (n := (start / 60).toNat) (by omega)); have HU := Lh (Tt.padD_two (n := (start % 60).toNat) (by omega)); go_wp2_with fail; refine (parts308 x wr (HL.out.below (by omega) HB.out) hxd.1 hxd.2).mono ?_; rintro e w1 ⟨rfl, hw⟩; rw [hw]; clear hw w1; generalize Tt.yOf x = y at *; generalize Tt.mOf x = m at *; generalize Tt.dOf x = d at *; have HB0 := Lh (show Below wr.heap.size wr wr from Below.refl _ _); have HP0 := Lh (HP.out.below h6 HB.out); have h6r : 6 < wr.heap.size := by omega
   go_wp2_with fail; refine (digits310 y 4 wr (HP0.out.below h6r HB0.out) (by omega) (by omega) (by omega)).mono ?_; rintro e w1 ⟨rfl, hb1⟩; rw [HY.out]; obtain ⟨s1, hs1⟩ : ∃ s, s = (⟨(Tt.d4 y.toNat).toArray⟩ : ByteArray) := ⟨_, rfl⟩
   have z1 : s1.size = 4 := by rw [hs1]; rfl
   rw [<- hs1]; have HS1 := Lh hs1; have HB1 := Lh (HB0.out.trans (hb1.mono HB0.out.size)); clear hs1 hb1; go_wp2_with fail; refine (digits310 m 2 w1 (HP0.out.below h6r HB1.out) (by omega) (by omega) (by omega)).mono ?_; rintro e w2 ⟨rfl, hb2⟩; rw [HM.out]; obtain ⟨s2, hs2⟩ : ∃ s, s = (⟨(Tt.d2 m.toNat).toArray⟩ : ByteArray) := ⟨_, rfl⟩
   have z2 : s2.size = 2 := by rw [hs2]; rfl
   rw [<- hs2]; have HS2 := Lh hs2; have HB2 := Lh (HB1.out.trans (hb2.mono HB1.out.size)); clear hs2 hb2; go_wp2_with fail; refine (digits310 d 2 w2 (HP0.out.below h6r HB2.out) (by omega) (by omega) (by omega)).mono ?_; rintro e w3 ⟨rfl, hb3⟩; rw [HD.out]; obtain ⟨s3, hs3⟩ : ∃ s, s = (⟨(Tt.d2 d.toNat).toArray⟩ : ByteArray) := ⟨_, rfl⟩
   have z3 : s3.size = 2 := by rw [hs3]; rfl
   rw [<- hs3]; have HS3 := Lh hs3; have HB3 := Lh (HB2.out.trans (hb3.mono HB2.out.size)); clear hs3 hb3; go_wp2_with fail; refine (digits310 (start / 60) 2 w3 (HP0.out.below h6r HB3.out) hq0 (by omega) (by omega)).mono ?_; rintro e w4 ⟨rfl, hb4⟩; rw [HQ.out]; obtain ⟨s4, hs4⟩ : ∃ s, s = (⟨(Tt.d2 (start / 60).toNat).toArray⟩ : ByteArray) := ⟨_, rfl⟩
   have z4 : s4.size = 2 := by rw [hs4]; rfl
   rw [<- hs4]; have HS4 := Lh hs4; have HB4 := Lh (HB3.out.trans (hb4.mono HB3.out.size)); clear hs4 hb4; go_wp2_with fail; refine (digits310 (start % 60) 2 w4 (HP0.out.below h6r HB4.out) hr0 (by omega) (by omega)).mono ?_; rintro e w5 ⟨rfl, hb5⟩; rw [HU.out]; obtain ⟨s5, hs5⟩ : ∃ s, s = (⟨(Tt.d2 (start % 60).toNat).toArray⟩ : ByteArray) := ⟨_, rfl⟩
   have z5 : s5.size = 2 := by rw [hs5]; rfl
   rw [<- hs5]; have HS5 := Lh hs5; have HB5 := Lh (HB4.out.trans (hb5.mono HB4.out.size)); clear hs5 hb5; have HO5 := Lh (ownsRow_below HO.out HB5.out); have hs5z := HB5.out.size; obtain ⟨S, hS⟩ : ∃ S, S = s1 ++ s2 ++ s3 ++ ⟨#[84]⟩ ++ s4 ++ s5 ++ ⟨#[48, 48]⟩ := ⟨_, rfl⟩
   have HSS := Lh hS; have HSX := Lh (show S = ⟨(Tt.stampL x start).toArray⟩ from mk_bytes (by rw [hS]; simp only [bs_app, HS1.out, HS2.out, HS3.out, HS4.out, HS5.out, HR.out])); clear hS; go_wp2_with (at_builtin; refine wpList_append_own_at _ rfl (.tmp 25) (.tmp 44) 60 rfl w.heap.size 9 i1 (.string ⟨#[]⟩) 1 16 Tryz.underlying60 hj hy0 hy2 hy3 rfl (by decide) _ _ _ rfl (HO5.out.alloc _) ⟨w5.heap.size, 0, none⟩ 1 1 [.string S] rfl rfl (by rw [HSS.out]; exact cell_one _ _ _) (by intro u hu; simp at hu; subst hu; rfl) (by unfold maxLen; omega) (by omega) (by simp; omega) ?_); intro v' w6 hown6 hgrow _ hat; have HB6 := Lh (show Below w.heap.size w w6 from HB.out.trans ((HB5.out.mono hsz).trans (((Below.refl _ w5).alloc (by omega) _).grown hgrow (by simp; omega) (fun k hk => (HO5.out.lt k hk).1)))); have HO6 := Lh (show w6.ownsRow w.heap.size 9 1 v' (i + 1) ((xs.take (i + 1)).map fun d => Value.string ⟨(Tt.stampL d start).toArray⟩) from by rw [HT.out, List.map_append, List.map_cons, List.map_nil, <- HSX.out, List.map_take]; exact hown6); clear hown6 hgrow hat; go_wp2_with fail; go_roundw
   case rel => exact ⟨i + 1, by go_num, by omega, HO6, HB6⟩
   case measure => simp [intOf]; omega
  ·have hlti : ¬ (i : Int) < n := by omega
   have HE := Lh (show xs.take i = xs from by rw [List.take_of_length_le (by rw [<- HN.out]; omega)]); have hin : i = n := by omega
   have HJ : Hid (Calls Tryz.prog 249 #[u5, .string ⟨#[44]⟩] wr fun e w' => e = .returned (.string ⟨(Tt.stampsL start xs).toArray⟩) /\ Below wr.heap.size wr w') := Lh (by
    have ho := HO.out; rw [HE.out, hin, HN.out, show (xs.map fun d => Value.string ⟨(Tt.stampL d start).toArray⟩) = (xs.map fun d => (⟨(Tt.stampL d start).toArray⟩ : ByteArray)).map Value.string from by rw [List.map_map]; rfl, show xs.length = (xs.map fun d => (⟨(Tt.stampL d start).toArray⟩ : ByteArray)).length from by rw [List.length_map]] at ho; have hjn : Lib.join ((xs.map fun d => (⟨(Tt.stampL d start).toArray⟩ : ByteArray)).map (·.data.toList)) (⟨#[44]⟩ : ByteArray).data.toList = Tt.stampsL start xs := by rw [List.map_map]; exact Tt.stampsL_join start xs
    have hl := Tt.stampsL_len start xs; have hn2 := HN.out; have h := join_row ⟨#[44]⟩ ho (by rw [List.length_map]; omega) (by rw [hjn]; omega); rw [hjn] at h; exact h)
   clear hin; go_wp2_with fail; refine HJ.out.mono ?_; rintro e w7 ⟨rfl, hb7⟩; have HB7 := Lh (HB.out.trans (hb7.mono hsz)); clear hb7 HJ; go_wp2_with fail; go_ret; exact ⟨rfl, HB7.out⟩
end Go.Proofs.YtageielcdebjlaaGreatDoor
namespace Tt
def nameW (d : Nat) : List UInt8 := ([[77, 79], [84, 85], [87, 69], [84, 72], [70, 82], [83, 65], [83, 85]] : List (List UInt8)).getD d []
def wdays (wd : Int) (k : Nat) : List Nat := (List.range k).filter fun d => bit wd d
def byL (wd : Int) (k : Nat) : List UInt8 := Go.Lib.join ((wdays wd k).map nameW) [44]
def ruleL (s : Ser) : List UInt8 := [70, 82, 69, 81, 61, 87, 69, 69, 75, 76, 89, 59, 73, 78, 84, 69, 82, 86, 65, 76, 61] ++ Go.Lib.decDigits s.every.toNat ++ [59, 66, 89, 68, 65, 89, 61] ++ byL s.wd 7 ++ [59, 85, 78, 84, 73, 76, 61] ++ dateL s.last
theorem wdays_step (wd : Int) (k : Nat) : wdays wd (k + 1) = if bit wd k = true then wdays wd k ++ [k] else wdays wd k := by
 unfold wdays; rw [List.range_succ, List.filter_append]; by_cases h : bit wd k = true
 ·rw [if_pos h, List.filter_cons_of_pos (p := fun d : Nat => bit wd d) h]; rfl
 ·rw [if_neg h, List.filter_cons_of_neg (p := fun d : Nat => bit wd d) h, List.filter_nil, List.append_nil]
theorem wdays_len (wd : Int) (k : Nat) : (wdays wd k).length <= k := by
 unfold wdays; exact Nat.le_trans (List.length_filter_le _ _) (by rw [List.length_range]; exact Nat.le_refl _)
theorem join_snoc (sep x : List UInt8) : ∀ xs : List (List UInt8), xs ≠ [] -> Go.Lib.join (xs ++ [x]) sep = Go.Lib.join xs sep ++ sep ++ x
 | [], h => absurd rfl h
 | y :: r, _ => by
  rw [List.cons_append, Go.Lib.join_cons, Go.Lib.join_cons]; unfold Go.Lib.joinTail; simp
theorem byL_step {wd : Int} {k : Nat} (h : bit wd k = true) : byL wd (k + 1) = byL wd k ++ (if wdays wd k = [] then [] else [44]) ++ nameW k := by
 unfold byL; rw [wdays_step, if_pos h, List.map_append, List.map_cons, List.map_nil]; by_cases h0 : wdays wd k = []
 ·rw [if_pos h0, h0]; show Go.Lib.join [nameW k] [44] = [] ++ [] ++ nameW k
  rw [Go.Lib.join_cons]; show nameW k ++ [] = _
  simp
 ·rw [if_neg h0, join_snoc [44] (nameW k) _ (by simpa using h0)]
theorem byL_same {wd : Int} {k : Nat} (h : bit wd k = false) : byL wd (k + 1) = byL wd k := by
 unfold byL; rw [wdays_step, if_neg (by simp [h])]
theorem nameW_len {k : Nat} (h : k < 7) : (nameW k).length = 2 := (show ∀ k : Nat, k < 7 -> (nameW k).length = 2 by decide) k h
theorem byL_len (wd : Int) : ∀ k : Nat, k <= 7 -> (byL wd k).length <= 3 * k
 | 0, _ => by show (Go.Lib.join [] [44]).length <= 0; rw [Go.Lib.join_nil]; exact Nat.le_refl _
 | k + 1, h => by
  have ih := byL_len wd k (by omega); cases hb : bit wd k with
  | false => rw [byL_same hb]; omega
  | true =>
   rw [byL_step hb, List.length_append, List.length_append, nameW_len (by omega)]; split <;> simp <;> omega
end Tt
namespace Go.Proofs.YtageielcdebjlaaGreatDoor
open Go.RowKit
theorem ret_code {a a' : ByteArray} {c : Int} (h : a = a') : Ending.returned (.tuple #[.string a, .int .i64 c]) = .returned (.tuple #[.string a', .int .i64 c]) := by rw [h]
theorem names_at {i : Nat} (h : i < 7) : (ByteArray.mk #[77, 79, 84, 85, 87, 69, 84, 72, 70, 82, 83, 65, 83, 85]).extract (2 * i) (2 * i + 2) = ⟨(Tt.nameW i).toArray⟩ := by
 rcases (show i = 0 ∨ i = 1 ∨ i = 2 ∨ i = 3 ∨ i = 4 ∨ i = 5 ∨ i = 6 by omega) with rfl | rfl | rfl | rfl | rfl | rfl | rfl <;> rfl
theorem format250 (s : Tt.Ser) (B : Nat) (w : World) (hs : Tt.serV s = 0) (ao ao' : Option Addr) (c c' : Nat) (hB : B <= w.heap.size) (hI : Ints B w ao s.ex) (hI' : Ints B w ao' s.xt) (hL : Lens w) (hP : Pow w) (h6 : 6 < w.heap.size) :
  Calls Tryz.prog 250 #[serVal s (.slice ao s.ex.length c) (.slice ao' s.xt.length c')] w fun e w' => e = .returned (.tuple #[.string ⟨(Tt.ruleL s).toArray⟩, .int .i64 0]) /\ Below w.heap.size w w' := by
 obtain ⟨i1, hj, hy0, hy2, hy3⟩ := info_parts infoString; have hh := ((Tt.serV_zero s).1 hs).1; have he0 := hh.e0; have he1 := hh.e1; have hl0 := hh.l0; have hl1 := hh.l1; have hw0 := hh.w0; have hw1 := hh.w1; have HV : Hid (Calls Tryz.prog 145 #[serVal s (.slice ao s.ex.length c) (.slice ao' s.xt.length c')] (w.alloc (.cells #[.int .i64 s.first, .int .i64 s.last, .int .i64 s.every, .int .i64 s.wd, .slice ao s.ex.length c, .slice ao' s.xt.length c'] 80)) fun e w' => e = .returned (.int .i64 0) /\ Below (w.heap.size + 1) (w.alloc (.cells #[.int .i64 s.first, .int .i64 s.last, .int .i64 s.every, .int .i64 s.wd, .slice ao s.ex.length c, .slice ao' s.xt.length c'] 80)) w') := Lh (by
  have hb := below_box w (.cells #[.int .i64 s.first, .int .i64 s.last, .int .i64 s.every, .int .i64 s.wd, .slice ao s.ex.length c, .slice ao' s.xt.length c'] 80); have h := valid145_any s B (w.alloc (.cells #[.int .i64 s.first, .int .i64 s.last, .int .i64 s.every, .int .i64 s.wd, .slice ao s.ex.length c, .slice ao' s.xt.length c'] 80)) (by have := hh.n; omega) (by have := hh.n; omega) ao ao' c c' (by simp; omega) (hI.below (hb.mono hB)) (hI'.below (hb.mono hB)); rw [hs] at h; refine h.mono fun e w' h2 => ⟨h2.1, h2.2.mono (by simp)⟩)
 have S0 : SerAt w.heap.size s (.slice ao s.ex.length c) (.slice ao' s.xt.length c') (w.alloc (.cells #[.int .i64 s.first, .int .i64 s.last, .int .i64 s.every, .int .i64 s.wd, .slice ao s.ex.length c, .slice ao' s.xt.length c'] 80)) := heap_alloc_new w _; have HS0 := Lh S0; have HB0 := Lh (below_box w (.cells #[.int .i64 s.first, .int .i64 s.last, .int .i64 s.every, .int .i64 s.wd, .slice ao s.ex.length c, .slice ao' s.xt.length c'] 80)); have HL := Lh hL; have HP := Lh hP; obtain ⟨w0, hw00⟩ : ∃ w0, w0 = w.alloc (.cells #[.int .i64 s.first, .int .i64 s.last, .int .i64 s.every, .int .i64 s.wd, .slice ao s.ex.length c, .slice ao' s.xt.length c'] 80) := ⟨_, rfl⟩
 rw [<- hw00] at HV HS0 HB0; obtain ⟨ex, hex⟩ : ∃ n, n = s.ex.length := ⟨_, rfl⟩
 obtain ⟨xt, hxt⟩ : ∃ n, n = s.xt.length := ⟨_, rfl⟩
 unfold serVal at HV ⊢; rw [<- hex, <- hxt] at HV HS0 hw00 ⊢; clear S0 hI hI' hL hP hh hs hex hxt; obtain ⟨e0, e1, e2, e3, e4, e5⟩ := HS0.out.cells; go_enter Tryz.func250, Tryz.ntmps250; go_upto_region 1 with (fail); rw [<- hw00]; clear hw00; go_wp2_with fail; refine HV.out.mono ?_; rintro e w1 ⟨rfl, hb1⟩; have HB1 := Lh hb1; clear hb1 HV e0 e1 e2 e3 e4 e5; have hsz0 := HS0.out.lt; have HS1 := Lh (show SerAt w.heap.size s (.slice ao ex c) (.slice ao' xt c') w1 from (HB1.out.block w.heap.size (by omega)).trans HS0.out); have HBW := Lh (show Below w.heap.size w w1 from HB0.out.trans (HB1.out.mono (by omega))); clear HS0 HB0 HB1; go_wp2_with fail; go_loopw [5, 17] (fun ov iv wr => ∃ (i : Nat), iv = .int .i64 i /\ i <= 7 /\ Hid (wr.ownsRow (w.heap.size + 1) 9 1 ov (Tt.wdays s.wd i).length ((Tt.wdays s.wd i).map fun d => Value.string ⟨(Tt.nameW d).toArray⟩)) /\ Hid (SerAt w.heap.size s (.slice ao ex c) (.slice ao' xt c') wr) /\ Hid (Below w.heap.size w wr)) (fun _ iv _ => 7 - (intOf iv).toNat)
 case atStart => exact ⟨0, rfl, Nat.zero_le _, Lh (World.ownsRow_nil _ _ _ _), HS1, HBW⟩
 case round =>
  clear HS1 HBW; obtain ⟨i, rfl, hi, HO, HS, HB⟩ := hrel; have hsz := HS.out.lt; obtain ⟨e0, e1, e2, e3, e4, e5⟩ := HS.out.cells; by_cases hlt : i < 7
  ·have hlti : (i : Int) < 7 := by omega
   have HBT := Lh (show (bits .and .i64 (s.wd / 2 ^ i) 1 == 1) = Tt.bit s.wd (i : Int) from bit_is s.wd (i : Int) hw0 (by omega)); cases hb : (bits .and .i64 (s.wd / 2 ^ i) 1 == 1)
   ·have HST := Lh (show Tt.wdays s.wd (i + 1) = Tt.wdays s.wd i from by rw [Tt.wdays_step, if_neg (by rw [<- HBT.out, hb]; simp)]); clear HBT; go_wp2_with fail; go_roundw
    case rel => exact ⟨i + 1, by go_num, by omega, by rw [HST.out]; exact HO, HS, HB⟩
    case measure => simp [intOf]; omega
   ·have HST := Lh (show Tt.wdays s.wd (i + 1) = Tt.wdays s.wd i ++ [i] from by rw [Tt.wdays_step, if_pos (by rw [<- HBT.out, hb])]); have HNA := Lh (names_at hlt); have hwl := Tt.wdays_len s.wd i; clear HBT; go_wp2_with (at_builtin; refine wpList_append_own_at _ rfl (.tmp 26) (.tmp 33) 60 rfl (w.heap.size + 1) 9 i1 (.string ⟨#[]⟩) 1 16 Tryz.underlying60 hj hy0 hy2 hy3 rfl (by decide) _ _ _ rfl (HO.out.alloc _) ⟨wr.heap.size, 0, none⟩ 1 1 [.string ⟨(Tt.nameW i).toArray⟩] rfl rfl (by rw [HNA.out]; exact cell_one _ _ _) (by intro u hu; simp at hu; subst hu; rfl) (by unfold maxLen; omega) (by omega) (by simp; omega) ?_); intro v' w6 hown6 hgrow _ hat; have HBL := Lh (show Below (w.heap.size + 1) wr w6 from ((Below.refl _ wr).alloc (by omega) _).grown hgrow (by simp; omega) (fun k hk => (HO.out.lt k hk).1)); have HB6 := Lh (HB.out.trans (HBL.out.mono (by omega))); have HS6 := Lh (show SerAt w.heap.size s (.slice ao ex c) (.slice ao' xt c') w6 from (HBL.out.block w.heap.size (by omega)).trans HS.out); have HO6 := Lh (show w6.ownsRow (w.heap.size + 1) 9 1 v' (Tt.wdays s.wd (i + 1)).length ((Tt.wdays s.wd (i + 1)).map fun d => Value.string ⟨(Tt.nameW d).toArray⟩) from by rw [HST.out, List.length_append, List.map_append, List.map_cons, List.map_nil]; exact hown6); clear hown6 hgrow hat; go_wp2_with fail; go_roundw
    case rel => exact ⟨i + 1, by go_num, by omega, HO6, HS6, HB6⟩
    case measure => simp [intOf]; omega
  ·have hlti : ¬ (i : Int) < 7 := by omega
   have hi7 : i = 7 := by omega
   subst hi7; have HBL := Lh (Tt.byL_len s.wd 7 (by omega)); have HJ : Hid (∀ W : World, Below wr.heap.size wr W -> Calls Tryz.prog 249 #[u5, .string ⟨#[44]⟩] W fun e w' => e = .returned (.string ⟨(Tt.byL s.wd 7).toArray⟩) /\ Below W.heap.size W w') := Lh (by
    intro W hW; have ho := ownsRow_below HO.out hW; have hl := Tt.wdays_len s.wd 7; rw [show ((Tt.wdays s.wd 7).map fun d => Value.string ⟨(Tt.nameW d).toArray⟩) = ((Tt.wdays s.wd 7).map fun d => (⟨(Tt.nameW d).toArray⟩ : ByteArray)).map Value.string from by rw [List.map_map]; rfl, show (Tt.wdays s.wd 7).length = ((Tt.wdays s.wd 7).map fun d => (⟨(Tt.nameW d).toArray⟩ : ByteArray)).length from by rw [List.length_map]] at ho; have hjn : Lib.join (((Tt.wdays s.wd 7).map fun d => (⟨(Tt.nameW d).toArray⟩ : ByteArray)).map (·.data.toList)) (⟨#[44]⟩ : ByteArray).data.toList = Tt.byL s.wd 7 := by rw [List.map_map]; rfl
    have h := join_row ⟨#[44]⟩ ho (by rw [List.length_map]; omega) (by rw [hjn]; have := HBL.out; omega); rw [hjn] at h; exact h)
   obtain ⟨y0, y1, m0, m1, d0, d1⟩ := Tt.date_toNat hl0 hl1; have HR := Lh (show Tt.ruleL s = [70, 82, 69, 81, 61, 87, 69, 69, 75, 76, 89, 59, 73, 78, 84, 69, 82, 86, 65, 76, 61] ++ Lib.decDigits s.every.toNat ++ [59, 66, 89, 68, 65, 89, 61] ++ Tt.byL s.wd 7 ++ [59, 85, 78, 84, 73, 76, 61] ++ (Tt.d4 (Tt.yOf s.last).toNat ++ Tt.d2 (Tt.mOf s.last).toNat ++ Tt.d2 (Tt.dOf s.last).toNat) from rfl); have HY := Lh (Tt.padD_four (n := (Tt.yOf s.last).toNat) (by omega) (by omega)); have HM := Lh (Tt.padD_two (n := (Tt.mOf s.last).toNat) (by omega)); have HD := Lh (Tt.padD_two (n := (Tt.dOf s.last).toNat) (by omega)); have HE := Lh (Lib.decDigits_one (i := s.every.toNat) (by omega)); have hsw := HB.out.size; have HPr := Lh (HP.out.below h6 HB.out); have HLr := Lh (HL.out.below (by omega) HB.out); clear hlti; go_wp2_with fail; refine (itoa136 s.every wr HPr.out (by omega) (by omega)).mono ?_; rintro e w2 ⟨rfl, hb2⟩; rw [HE.out]; obtain ⟨s0, hs0⟩ : ∃ s0, s0 = (⟨[UInt8.ofNat (48 + s.every.toNat)].toArray⟩ : ByteArray) := ⟨_, rfl⟩
   have z0 : s0.size = 1 := by rw [hs0]; rfl
   rw [<- hs0]; have HS0 := Lh hs0; have HB0 := Lh hb2; clear hs0 hb2; go_wp2_with fail; refine (HJ.out w2 HB0.out).mono ?_; rintro e w3 ⟨rfl, hb3⟩; obtain ⟨sj, hsj⟩ : ∃ q, q = (⟨(Tt.byL s.wd 7).toArray⟩ : ByteArray) := ⟨_, rfl⟩
   have zj : sj.size <= 21 := by rw [hsj, size_mk]; exact HBL.out
   rw [<- hsj]; have HSJ := Lh hsj; have HBJ := Lh (HB0.out.trans (hb3.mono HB0.out.size)); have HSW := Lh (show SerAt w.heap.size s (.slice ao ex c) (.slice ao' xt c') w3 from (HBJ.out.block w.heap.size (by omega)).trans HS.out); clear hsj hb3 HJ e0 e1 e2 e3 e4 e5; obtain ⟨e0, e1, e2, e3, e4, e5⟩ := HSW.out.cells; have h6r : 6 < wr.heap.size := by omega
   go_wp2_with fail; refine (parts308 s.last w3 (HLr.out.below (by omega) HBJ.out) hl0 hl1).mono ?_; rintro e wz ⟨rfl, hw⟩; rw [hw]; clear hw wz; generalize Tt.yOf s.last = y at *; generalize Tt.mOf s.last = m at *; generalize Tt.dOf s.last = d at *; have HB0 := HBJ; go_wp2_with fail; refine (digits309 y 4 w3 (HPr.out.below h6r HB0.out) (by omega) (by omega) (by omega)).mono ?_; rintro e w4 ⟨rfl, hb1⟩; rw [HY.out]; obtain ⟨s1, hs1⟩ : ∃ s, s = (⟨(Tt.d4 y.toNat).toArray⟩ : ByteArray) := ⟨_, rfl⟩
   have z1 : s1.size = 4 := by rw [hs1]; rfl
   rw [<- hs1]; have HS1 := Lh hs1; have HB1 := Lh (HB0.out.trans (hb1.mono HB0.out.size)); clear hs1 hb1; go_wp2_with fail; refine (digits309 m 2 w4 (HPr.out.below h6r HB1.out) (by omega) (by omega) (by omega)).mono ?_; rintro e w5 ⟨rfl, hb2⟩; rw [HM.out]; obtain ⟨s2, hs2⟩ : ∃ s, s = (⟨(Tt.d2 m.toNat).toArray⟩ : ByteArray) := ⟨_, rfl⟩
   have z2 : s2.size = 2 := by rw [hs2]; rfl
   rw [<- hs2]; have HS2 := Lh hs2; have HB2 := Lh (HB1.out.trans (hb2.mono HB1.out.size)); clear hs2 hb2; go_wp2_with fail; refine (digits309 d 2 w5 (HPr.out.below h6r HB2.out) (by omega) (by omega) (by omega)).mono ?_; rintro e w6 ⟨rfl, hb3⟩; rw [HD.out]; obtain ⟨s3, hs3⟩ : ∃ s, s = (⟨(Tt.d2 d.toNat).toArray⟩ : ByteArray) := ⟨_, rfl⟩
   have z3 : s3.size = 2 := by rw [hs3]; rfl
   rw [<- hs3]; have HS3 := Lh hs3; have HB3 := Lh (HB2.out.trans (hb3.mono HB2.out.size)); clear hs3 hb3; go_wp2_with fail; go_ret2; exact ⟨ret_code (mk_bytes (by simp only [bs_app, HS0.out, HSJ.out, HS1.out, HS2.out, HS3.out, HR.out, HE.out, List.append_assoc])), HB.out.trans (HB3.out.mono hsw)⟩
def evCells (e : Ev) (v v' : Value) : Array Value := #[.string e.uid, .int .i64 e.seq, .bool e.canc, .int .i64 e.days.first, .int .i64 e.days.last, .int .i64 e.days.every, .int .i64 e.days.wd, v, v', .int .i64 e.start, .int .i64 e.mins, .string e.summ, .string e.loc]
def evVal (e : Ev) (v v' : Value) : Value := .agg (evCells e v v')
def EvBox (b : Nat) (e : Ev) (v v' : Value) (w : World) : Prop := w.heap[b]? = some (.cells (evCells e v v') 82 (0, 0))
theorem EvBox.lt {b : Nat} {e : Ev} {v v' : Value} {w : World} (h : EvBox b e v v' w) : b < w.heap.size := (Array.getElem?_eq_some_iff.1 h).1
theorem EvBox.block {b : Nat} {e : Ev} {v v' : Value} {w w' : World} (h : EvBox b e v v' w) (hw : w'.heap[b]? = w.heap[b]?) : EvBox b e v v' w' := hw.trans h
structure EvC (b p : Nat) (e : Ev) (v v' : Value) (w : World) : Prop where
 c0 : w.cell? ⟨b, p, none⟩ = some (.string e.uid)
 c1 : w.cell? ⟨b, p + 1, none⟩ = some (.int .i64 e.seq)
 c2 : w.cell? ⟨b, p + 2, none⟩ = some (.bool e.canc)
 c3 : w.cell? ⟨b, p + 3, none⟩ = some (.int .i64 e.days.first)
 c4 : w.cell? ⟨b, p + 4, none⟩ = some (.int .i64 e.days.last)
 c5 : w.cell? ⟨b, p + 5, none⟩ = some (.int .i64 e.days.every)
 c6 : w.cell? ⟨b, p + 6, none⟩ = some (.int .i64 e.days.wd)
 c7 : w.cell? ⟨b, p + 7, none⟩ = some v
 c8 : w.cell? ⟨b, p + 8, none⟩ = some v'
 c9 : w.cell? ⟨b, p + 9, none⟩ = some (.int .i64 e.start)
 c10 : w.cell? ⟨b, p + 10, none⟩ = some (.int .i64 e.mins)
 c11 : w.cell? ⟨b, p + 11, none⟩ = some (.string e.summ)
 c12 : w.cell? ⟨b, p + 12, none⟩ = some (.string e.loc)
theorem EvBox.c {b : Nat} {e : Ev} {v v' : Value} {w : World} (h : EvBox b e v v' w) : EvC b 0 e v v' w := by
 constructor <;> (rw [Lib.cell_of_heap h]; rfl)
theorem ownsRow_len {w : World} {B : Nat} {e : TypeId} {k : Nat} {v : Value} {n : Nat} {xs : List Value} (h : w.ownsRow B e k v n xs) : ∃ p c, v = .slice p n c := by
 rcases h.2 with ⟨rfl, h0⟩ | ⟨g, cap, cur, rfl, _⟩
 ·subst h0; exact ⟨_, _, rfl⟩
 ·exact ⟨_, _, rfl⟩
theorem checkV_range (e : Ev) (v : Int) (h : e.seq < 1 ∨ v < e.seq) : checkV e v = 3 := by unfold checkV; rw [if_pos h]
theorem checkV_ser (e : Ev) (v : Int) (h : ¬ (e.seq < 1 ∨ v < e.seq)) (h2 : Tt.serV e.days ≠ 0) : checkV e v = Tt.serV e.days := by unfold checkV; rw [if_neg h, if_pos h2]
theorem checkV_empty (e : Ev) (v : Int) (h : ¬ (e.seq < 1 ∨ v < e.seq)) (h2 : Tt.serV e.days = 0) (h3 : Tt.serDays e.days = []) : checkV e v = 16 := by unfold checkV; rw [if_neg h, if_neg (by simp [h2]), if_pos h3]
theorem checkV_time (e : Ev) (v : Int) (h : ¬ (e.seq < 1 ∨ v < e.seq)) (h2 : Tt.serV e.days = 0) (h3 : Tt.serDays e.days ≠ []) :
  checkV e v = if e.start < 0 ∨ 1440 <= e.start ∨ e.mins < 1 ∨ 1440 < e.mins then 14
   else if e.summ.size = 0 ∨ Tt.labB e.summ.data.toList = false ∨ Tt.labB e.loc.data.toList = false then 4 else 0 := by unfold checkV; rw [if_neg h, if_neg (by simp [h2]), if_neg h3]
theorem nonempty_list (x : ByteArray) (h : x.size ≠ 0) : x.toList.isEmpty = false := by
 rw [Lib.toList_data]; cases hx : x.data.toList with
 | nil => exact absurd (by rw [Lib.size_eq, hx]; rfl) h
 | cons c t => rfl
theorem empty_list (x : ByteArray) (h : x.size = 0) : x.toList = [] := by
 rw [Lib.toList_data]; exact List.eq_nil_of_length_eq_zero (by rw [<- Lib.size_eq]; exact h)
theorem check96 (e : Ev) (v : Int) (B : Nat) (w : World) (ao ao' : Option Addr) (c c' : Nat) (hB : B <= w.heap.size) (hI : Ints B w ao e.days.ex) (hI' : Ints B w ao' e.days.xt) (hn : e.days.ex.length <= 4611686018427387903) (hn2 : e.days.xt.length <= 4611686018427387903) (hs : e.summ.size <= 4611686018427387904) (hl : e.loc.size <= 4611686018427387904) :
  Calls Tryz.prog 96 #[evVal e (.slice ao e.days.ex.length c) (.slice ao' e.days.xt.length c'), .int .i64 v] w fun x w' => x = .returned (.int .i64 (checkV e v)) /\ Below w.heap.size w w' := by
 have HI := Lh hI; have HI' := Lh hI'; have S0 : EvBox w.heap.size e (.slice ao e.days.ex.length c) (.slice ao' e.days.xt.length c') (w.alloc (.cells (evCells e (.slice ao e.days.ex.length c) (.slice ao' e.days.xt.length c')) 82)) := heap_alloc_new w _; have HS0 := Lh S0; clear hI hI' S0; unfold evCells at HS0; unfold evVal evCells; by_cases h1 : e.seq < 1 ∨ v < e.seq
 ·have HE := Lh (checkV_range e v h1); rcases h1 with h1 | h1
  ·go_enter Tryz.func96, Tryz.ntmps96; go_wp2_with fail; go_ret; exact ⟨ret_int HE.out.symm, below_box _ _⟩
  ·by_cases h2 : e.seq < 1
   all_goals
    go_enter Tryz.func96, Tryz.ntmps96; go_wp2_with fail; go_ret; exact ⟨ret_int HE.out.symm, below_box _ _⟩
 ·have k1 : 1 <= e.seq := by omega
  have k2 : e.seq <= v := by omega
  have H1 := Lh h1; clear h1; go_enter Tryz.func96, Tryz.ntmps96; go_wp2_with fail; refine (valid145_any e.days B _ hn hn2 ao ao' c c' (by simp; omega) (HI.out.below ((below_box w _).mono hB)) (HI'.out.below ((below_box w _).mono hB))).mono ?_; rintro x w1 ⟨rfl, hb1⟩; have hbe1 := below_then (below_box w _) hb1; have HA1 := Lh (EvBox.block (e := e) HS0.out (hb1.block _ (by simp))); clear hb1; by_cases hv : Tt.serV e.days = 0
  ·rw [hv]; have HC1 := HA1.out.c; obtain ⟨c0, c1, c2, c3, c4, c5, c6, c7, c8, c9, c10, c11, c12⟩ := HC1; have HV := Lh hv; clear hv; go_wp2_with fail; refine (days74 e.days B _ hn hn2 ao ao' c c' (Nat.le_trans hB hbe1.size) (HI.out.below (hbe1.mono hB)) (HI'.out.below (hbe1.mono hB))).mono ?_; rintro x w2 ⟨u, rfl, hown, hb2⟩; obtain ⟨q1, q2, hu⟩ := ownsRow_len hown; subst hu; have hbe2 := below_then hbe1 hb2; have HA2 := Lh (HA1.out.block (hb2.block _ HA1.out.lt)); clear hb2 hown c0 c1 c2 c3 c4 c5 c6 c7 c8 c9 c10 c11 c12 HA1 hbe1; obtain ⟨c0, c1, c2, c3, c4, c5, c6, c7, c8, c9, c10, c11, c12⟩ := HA2.out.c; by_cases hd : Tt.serDays e.days = []
   ·have HE := Lh (checkV_empty e v H1.out HV.out hd); have hlen : (Tt.serDays e.days).length = 0 := by rw [hd]; rfl
    rw [hlen]; clear hd hlen; go_wp2_with fail; go_ret; exact ⟨ret_int HE.out.symm, hbe2⟩
   ·have HE := Lh (checkV_time e v H1.out HV.out hd); obtain ⟨n, hlen⟩ : ∃ n, (Tt.serDays e.days).length = n + 1 := ⟨(Tt.serDays e.days).length - 1, by have := List.length_pos_iff.2 hd; omega⟩
    rw [hlen]; clear hd hlen; by_cases ht : e.start < 0 ∨ 1440 <= e.start ∨ e.mins < 1 ∨ 1440 < e.mins
    ·have HE2 := Lh (HE.out.trans (if_pos ht)); clear HE; go_wp2_with fail
     all_goals first
      | (go_ret; exact ⟨ret_int HE2.out.symm, hbe2⟩)
      | (exfalso; omega)
    ·have HE2 := Lh (HE.out.trans (if_neg ht)); have t1 : ¬ e.start < 0 := by omega
     have t2 : ¬ 1440 <= e.start := by omega
     have t3 : ¬ e.mins < 1 := by omega
     have t4 : ¬ 1440 < e.mins := by omega
     clear HE ht; by_cases hz : e.summ.size = 0
     ·have HE3 := Lh (HE2.out.trans (if_pos (.inl hz))); have hz1 := empty_list _ hz; have hz2 : (!e.summ.toList.isEmpty) = false := by rw [hz1]; rfl
      clear hz; go_wp2_with fail; go_ret; exact ⟨ret_int HE3.out.symm, hbe2⟩
     ·have hz1 := nonempty_list _ hz; have HZ := Lh hz; clear hz; go_wp2_with fail; refine (label167 e.summ _ hs).mono ?_; rintro x w3 ⟨rfl, hw3⟩; have hbe3 := below_then hbe2 hw3; have HA3 := Lh (HA2.out.block (hw3.block _ HA2.out.lt)); clear c0 c1 c2 c3 c4 c5 c6 c7 c8 c9 c10 c11 c12 HA2 hbe2 hw3; obtain ⟨c0, c1, c2, c3, c4, c5, c6, c7, c8, c9, c10, c11, c12⟩ := HA3.out.c; cases hl1 : Tt.labB e.summ.data.toList
      ·have HE3 := Lh (HE2.out.trans (if_pos (.inr (.inl hl1)))); clear hl1; go_wp2_with fail; go_ret; exact ⟨ret_int HE3.out.symm, hbe3⟩
      ·have HL1 := Lh hl1; clear hl1; go_wp2_with fail; refine (label167 e.loc _ hl).mono ?_; rintro x w4 ⟨rfl, hw4⟩; have hbe4 := below_then hbe3 hw4; cases hl2 : Tt.labB e.loc.data.toList
       ·have HE3 := Lh (HE2.out.trans (if_pos (.inr (.inr hl2)))); clear hl2; go_wp2_with fail; go_ret; exact ⟨ret_int HE3.out.symm, hbe4⟩
       ·have HE3 := Lh (HE2.out.trans (if_neg (by rw [hl2, HL1.out]; simp [HZ.out]))); clear hl2; go_wp2_with fail; go_ret; exact ⟨ret_int HE3.out.symm, hbe4⟩
  ·have HE := Lh (checkV_ser e v H1.out hv); have hv2 : (Tt.serV e.days != 0) = true := by simp [hv]
   clear hv; go_wp2_with fail; go_ret; exact ⟨ret_int HE.out.symm, hbe1⟩
theorem fault99 (e : Ev) (v : Int) (B : Nat) (w : World) (ao ao' : Option Addr) (c c' : Nat) (hB : B <= w.heap.size) (hI : Ints B w ao e.days.ex) (hI' : Ints B w ao' e.days.xt) (hn : e.days.ex.length <= 4611686018427387903) (hn2 : e.days.xt.length <= 4611686018427387903) (hs : e.summ.size <= 4611686018427387904) (hl : e.loc.size <= 4611686018427387904) :
  Calls Tryz.prog 99 #[evVal e (.slice ao e.days.ex.length c) (.slice ao' e.days.xt.length c'), .int .i64 v] w fun x w' => x = .returned (.int .i64 (checkV e v)) /\ Below w.heap.size w w' := by
 have HI := Lh hI; have HI' := Lh hI'; have S0 : EvBox w.heap.size e (.slice ao e.days.ex.length c) (.slice ao' e.days.xt.length c') (w.alloc (.cells (evCells e (.slice ao e.days.ex.length c) (.slice ao' e.days.xt.length c')) 82)) := heap_alloc_new w _; have HS0 := Lh S0; clear hI hI' S0; unfold evCells at HS0; unfold evVal evCells; by_cases h1 : e.seq < 1 ∨ v < e.seq
 ·have HE := Lh (checkV_range e v h1); rcases h1 with h1 | h1
  ·go_enter Tryz.func99, Tryz.ntmps99; go_wp2_with fail; go_ret; exact ⟨ret_int HE.out.symm, below_box _ _⟩
  ·by_cases h2 : e.seq < 1
   all_goals
    go_enter Tryz.func99, Tryz.ntmps99; go_wp2_with fail; go_ret; exact ⟨ret_int HE.out.symm, below_box _ _⟩
 ·have k1 : 1 <= e.seq := by omega
  have k2 : e.seq <= v := by omega
  have H1 := Lh h1; clear h1; go_enter Tryz.func99, Tryz.ntmps99; go_wp2_with fail; refine (valid170_any e.days B _ hn hn2 ao ao' c c' (by simp; omega) (HI.out.below ((below_box w _).mono hB)) (HI'.out.below ((below_box w _).mono hB))).mono ?_; rintro x w1 ⟨rfl, hb1⟩; have hbe1 := below_then (below_box w _) hb1; have HA1 := Lh (EvBox.block (e := e) HS0.out (hb1.block _ (by simp))); clear hb1; by_cases hv : Tt.serV e.days = 0
  ·rw [hv]; have HC1 := HA1.out.c; obtain ⟨c0, c1, c2, c3, c4, c5, c6, c7, c8, c9, c10, c11, c12⟩ := HC1; have HV := Lh hv; clear hv; go_wp2_with fail; refine (days119 e.days B _ hn hn2 ao ao' c c' (Nat.le_trans hB hbe1.size) (HI.out.below (hbe1.mono hB)) (HI'.out.below (hbe1.mono hB))).mono ?_; rintro x w2 ⟨u, rfl, hown, hb2⟩; obtain ⟨q1, q2, hu⟩ := ownsRow_len hown; subst hu; have hbe2 := below_then hbe1 hb2; have HA2 := Lh (HA1.out.block (hb2.block _ HA1.out.lt)); clear hb2 hown c0 c1 c2 c3 c4 c5 c6 c7 c8 c9 c10 c11 c12 HA1 hbe1; obtain ⟨c0, c1, c2, c3, c4, c5, c6, c7, c8, c9, c10, c11, c12⟩ := HA2.out.c; by_cases hd : Tt.serDays e.days = []
   ·have HE := Lh (checkV_empty e v H1.out HV.out hd); have hlen : (Tt.serDays e.days).length = 0 := by rw [hd]; rfl
    rw [hlen]; clear hd hlen; go_wp2_with fail; go_ret; exact ⟨ret_int HE.out.symm, hbe2⟩
   ·have HE := Lh (checkV_time e v H1.out HV.out hd); obtain ⟨n, hlen⟩ : ∃ n, (Tt.serDays e.days).length = n + 1 := ⟨(Tt.serDays e.days).length - 1, by have := List.length_pos_iff.2 hd; omega⟩
    rw [hlen]; clear hd hlen; by_cases ht : e.start < 0 ∨ 1440 <= e.start ∨ e.mins < 1 ∨ 1440 < e.mins
    ·have HE2 := Lh (HE.out.trans (if_pos ht)); clear HE; go_wp2_with fail
     all_goals first
      | (go_ret; exact ⟨ret_int HE2.out.symm, hbe2⟩)
      | (exfalso; omega)
    ·have HE2 := Lh (HE.out.trans (if_neg ht)); have t1 : ¬ e.start < 0 := by omega
     have t2 : ¬ 1440 <= e.start := by omega
     have t3 : ¬ e.mins < 1 := by omega
     have t4 : ¬ 1440 < e.mins := by omega
     clear HE ht; by_cases hz : e.summ.size = 0
     ·have HE3 := Lh (HE2.out.trans (if_pos (.inl hz))); have hz1 := empty_list _ hz; have hz2 : (!e.summ.toList.isEmpty) = false := by rw [hz1]; rfl
      clear hz; go_wp2_with fail; go_ret; exact ⟨ret_int HE3.out.symm, hbe2⟩
     ·have hz1 := nonempty_list _ hz; have HZ := Lh hz; clear hz; go_wp2_with fail; refine (label171 e.summ _ hs).mono ?_; rintro x w3 ⟨rfl, hw3⟩; rw [hw3]; clear hw3 w3; cases hl1 : Tt.labB e.summ.data.toList
      ·have HE3 := Lh (HE2.out.trans (if_pos (.inr (.inl hl1)))); clear hl1; go_wp2_with fail; go_ret; exact ⟨ret_int HE3.out.symm, hbe2⟩
      ·have HL1 := Lh hl1; clear hl1; go_wp2_with fail; refine (label171 e.loc _ hl).mono ?_; rintro x w4 ⟨rfl, hw4⟩; rw [hw4]; clear hw4 w4; cases hl2 : Tt.labB e.loc.data.toList
       ·have HE3 := Lh (HE2.out.trans (if_pos (.inr (.inr hl2)))); clear hl2; go_wp2_with fail; go_ret; exact ⟨ret_int HE3.out.symm, hbe2⟩
       ·have HE3 := Lh (HE2.out.trans (if_neg (by rw [hl2, HL1.out]; simp [HZ.out]))); clear hl2; go_wp2_with fail; go_ret; exact ⟨ret_int HE3.out.symm, hbe2⟩
  ·have HE := Lh (checkV_ser e v H1.out hv); have hv2 : (Tt.serV e.days != 0) = true := by simp [hv]
   clear hv; go_wp2_with fail; go_ret; exact ⟨ret_int HE.out.symm, hbe1⟩
def Blk (g : Nat) (cs : Array Value) (ty : TypeId) (w : World) : Prop := w.heap[g]? = some (.cells cs ty (0, 0))
theorem Blk.lt {g : Nat} {cs : Array Value} {ty : TypeId} {w : World} (h : Blk g cs ty w) : g < w.heap.size := (Array.getElem?_eq_some_iff.1 h).1
theorem Blk.new (w : World) (cs : Array Value) (ty : TypeId) : Blk w.heap.size cs ty (w.alloc (.cells cs ty)) := heap_alloc_new w _
theorem Blk.alloc {g : Nat} {cs : Array Value} {ty : TypeId} {w : World} (h : Blk g cs ty w) (o : Obj) : Blk g cs ty (w.alloc o) := (Lib.alloc_old w o g h.lt).trans h
theorem Blk.cell {g : Nat} {cs : Array Value} {ty : TypeId} {w : World} (h : Blk g cs ty w) (i : Nat) : w.cell? ⟨g, i, none⟩ = cs[i]? := by rw [Lib.cell_of_heap h]
theorem Blk.frozen {g : Nat} {cs : Array Value} {ty : TypeId} {w : World} (h : Blk g cs ty w) (i : Nat) : w.frozen? ⟨g, i, none⟩ = false := by simp [World.frozen?, show w.heap[g]? = _ from h]
theorem Blk.set {g : Nat} {cs : Array Value} {ty : TypeId} {w : World} (h : Blk g cs ty w) (i : Nat) (u : Value) : Blk g (cs.setIfInBounds i u) ty (w.setCell ⟨g, i, none⟩ u) := by
 unfold Blk at h ⊢; simp [World.setCell, Array.getElem?_modify, h]
theorem Blk.set_other {g g' : Nat} {cs : Array Value} {ty : TypeId} {w : World} (h : Blk g cs ty w) (hne : g ≠ g') (i : Nat) (u : Value) : Blk g cs ty (w.setCell ⟨g', i, none⟩ u) :=
 (Below.heap_setCell _ _ _ _ hne).trans h
theorem Blk.only {b g : Nat} {cs : Array Value} {ty : TypeId} {w w' : World} (h : Blk g cs ty w) (ho : Only b w w') (hne : g ≠ b) : Blk g cs ty w' := (ho.2.2.2.2 g hne).trans h
theorem Blk.but {b g : Nat} {cs : Array Value} {ty : TypeId} {w w' : World} (h : Blk g cs ty w) (ho : But b w.heap.size w w') (hne : g ≠ b) : Blk g cs ty w' := (ho.block g h.lt hne).trans h
theorem Blk.below {B g : Nat} {cs : Array Value} {ty : TypeId} {w w' : World} (h : Blk g cs ty w) (ho : Below B w w') (hB : g < B) : Blk g cs ty w' := (ho.block g hB).trans h
theorem Blk.draw {g : Nat} {cs : Array Value} {ty : TypeId} {w : World} (h : Blk g cs ty w) : Blk g cs ty w.drew := h
theorem Blk.grown {g : Nat} {cs : Array Value} {ty : TypeId} {w w' : World} (h : Blk g cs ty w) {B n k : Nat} {e : TypeId} {v : Value} {xs : List Value} (hown : w.ownsRow B e k v n xs) (hg : w.grownBy w' v.ownBlock) (hte : ty ≠ e) : Blk g cs ty w' := by
 refine (hg.block g h.lt ?_).trans h; intro e1; rcases hown.2 with ⟨rfl, _⟩ | ⟨g', cap, cur, rfl, _, hgb, _⟩
 ·cases e1
 ·simp only [Value.ownBlock, Option.some.injEq] at e1; subst e1; rw [show w.heap[g]? = _ from h] at hgb; simp only [Option.some.injEq, Obj.cells.injEq] at hgb; exact hte hgb.2.1
theorem Blk.ne {g g' : Nat} {cs cs' : Array Value} {ty ty' : TypeId} {w : World} (h : Blk g cs ty w) (h' : Blk g' cs' ty' w) (hne : ty ≠ ty') : g ≠ g' := by
 intro e; subst e; have h' : some (Obj.cells cs ty (0, 0)) = some (.cells cs' ty' (0, 0)) := (show w.heap[g]? = _ from h).symm.trans h'; simp only [Option.some.injEq, Obj.cells.injEq] at h'; exact hne h'.2.1
theorem row_set {w : World} {B k : Nat} {e : TypeId} {v : Value} {n : Nat} {xs : List Value} (h : w.ownsRow B e k v n xs) {g : Nat} {cs : Array Value} {ty : TypeId} (hg : Blk g cs ty w) (hte : ty ≠ e) (i : Nat) (u : Value) : (w.setCell ⟨g, i, none⟩ u).ownsRow B e k v n xs := by
 refine ⟨h.1, ?_⟩; rcases h.2 with h1 | ⟨g', cap, cur, r1, r2, r3, r4⟩
 ·exact .inl h1
 ·exact .inr ⟨g', cap, cur, r1, r2, (Below.heap_setCell _ _ _ _ (Ne.symm (hg.ne (ty' := e) r3 hte))).trans r3, r4⟩
theorem row_apart_ty {w : World} {B B' k k' : Nat} {e e' : TypeId} {v v' : Value} {n n' : Nat} {xs xs' : List Value} (h : w.ownsRow B e k v n xs) (h' : w.ownsRow B' e' k' v' n' xs') (hte : e ≠ e') : v.ownBlock = none ∨ v.ownBlock ≠ v'.ownBlock := by
 rcases h.2 with ⟨rfl, _⟩ | ⟨g, cap, cur, rfl, _, hgb, _⟩
 ·exact .inl rfl
 ·right
  rcases h'.2 with ⟨rfl, _⟩ | ⟨g', cap', cur', rfl, _, hgb', _⟩
  ·simp [Value.ownBlock]
  ·simp only [Value.ownBlock, ne_eq, Option.some.injEq]; exact Blk.ne (w := w) hgb hgb' hte
theorem apart_next {w : World} {B k n : Nat} {e : TypeId} {v v' u : Value} {xs : List Value} (hu : w.ownsRow B e k u n xs) (h : v.ownBlock = none ∨ v.ownBlock ≠ u.ownBlock) (hat : v'.ownBlock = v.ownBlock ∨ v'.ownBlock = some w.heap.size) : v'.ownBlock = none ∨ v'.ownBlock ≠ u.ownBlock := by
 rcases hat with e1 | e1
 ·rw [e1]; exact h
 ·right; rw [e1]; intro e2
  exact absurd (hu.lt _ e2.symm).2 (Nat.lt_irrefl _)
theorem apart_comm {u v : Value} (h : v.ownBlock = none ∨ v.ownBlock ≠ u.ownBlock) : u.ownBlock = none ∨ u.ownBlock ≠ v.ownBlock := by
 cases hu : u.ownBlock with
 | none => exact .inl rfl
 | some a =>
  right
  rcases h with h | h
  ·rw [h]; simp
  ·rw [<- hu]; exact Ne.symm h
theorem but_set {b B g i : Nat} {w w1 : World} {u : Value} (h : But b B w w1) (hg : B <= g) : But b B w (w1.setCell ⟨g, i, none⟩ u) := h.trans (But.of_below ((Below.refl _ w1).setCell hg _))
theorem but_alloc {b B : Nat} {w w1 : World} (h : But b B w w1) (hB : B <= w1.heap.size) (o : Obj) : But b B w (w1.alloc o) := h.trans (But.of_below ((Below.refl _ w1).alloc hB _))
theorem but_only {b B : Nat} {w w1 w2 : World} (h : But b B w w1) (ho : Only b w1 w2) : But b B w w2 := h.trans ho.but
theorem but_then {b B : Nat} {w w1 w2 : World} (h : But b B w w1) (k : But b w1.heap.size w1 w2) (hB : B <= w1.heap.size) : But b B w w2 := h.trans ⟨k.os, k.tape, k.output, k.size, fun i hi hne => k.block i (Nat.lt_of_lt_of_le hi hB) hne⟩
theorem but_below {b B : Nat} {w w1 w2 : World} (h : But b B w w1) (k : Below B w1 w2) : But b B w w2 := h.trans (But.of_below k)
theorem but_grown {b B n k : Nat} {w w1 w2 : World} {e : TypeId} {v : Value} {xs : List Value} (h : But b B w w1) (hown : w1.ownsRow B e k v n xs) (hB : B <= w1.heap.size) (hg : w1.grownBy w2 v.ownBlock) : But b B w w2 :=
 h.trans (But.of_below ((Below.refl _ w1).grown hg hB (fun k hk => (hown.lt k hk).1)))
theorem dice_set {b g i : Nat} {w : World} {u : Value} (h : Dice b w) (hg : b < g) : Dice b (w.setCell ⟨g, i, none⟩ u) := h.kept (Nat.lt_succ_self b) ((Below.refl _ w).setCell hg _)
theorem dice_alloc {b : Nat} {w : World} (h : Dice b w) (o : Obj) : Dice b (w.alloc o) := h.kept h.lt (below_box _ _)
theorem dice_grown {b B n k : Nat} {w w2 : World} {e : TypeId} {v : Value} {xs : List Value} (h : Dice b w) (hown : w.ownsRow B e k v n xs) (hb : b < B) (hB : B <= w.heap.size) (hg : w.grownBy w2 v.ownBlock) : Dice b w2 :=
 h.kept hb ((Below.refl _ w).grown hg hB (fun k hk => (hown.lt k hk).1))
theorem row_but {b B k : Nat} {w w' : World} {e : TypeId} {v : Value} {n : Nat} {xs : List Value} (h : w.ownsRow B e k v n xs) (hb : b < B) (ho : But b w.heap.size w w') : w'.ownsRow B e k v n xs := by
 refine ⟨h.1, ?_⟩; rcases h.2 with h1 | ⟨g, cap, cur, r1, r2, r3, r4⟩
 ·exact .inl h1
 ·exact .inr ⟨g, cap, cur, r1, r2, (ho.block g (Array.getElem?_eq_some_iff.1 r3).1 (by omega)).trans r3, r4⟩
def setAll (w : World) (g : Nat) : Nat -> List Value -> World
 | _, [] => w
 | o, v :: r => setAll (w.setCell ⟨g, o, none⟩ v) g (o + 1) r
theorem size_setAll {g : Nat} : ∀ (vs : List Value) (o : Nat) (w : World), (setAll w g o vs).heap.size = w.heap.size
 | [], _, _ => rfl
 | _ :: r, o, w => (size_setAll r (o + 1) _).trans (by simp)
theorem Blk.puts {g : Nat} {ty : TypeId} : ∀ (vs pre mid post : List Value) (w : World), Blk g (pre ++ mid ++ post).toArray ty w -> mid.length = vs.length -> Blk g (pre ++ vs ++ post).toArray ty (setAll w g pre.length vs)
 | [], pre, mid, post, w, h, hl => by
  rw [List.eq_nil_of_length_eq_zero hl] at h; exact h
 | v :: r, pre, [], post, w, h, hl => by cases hl
 | v :: r, pre, m :: mid, post, w, h, hl => by
  have h1 := h.set pre.length v; have e : (pre ++ (m :: mid) ++ post).toArray.setIfInBounds pre.length v = ((pre ++ [v]) ++ mid ++ post).toArray := by
   simp
  rw [e] at h1; have h2 := Blk.puts r (pre ++ [v]) mid post _ h1 (by simpa using hl); rw [show (pre ++ [v]).length = pre.length + 1 by simp] at h2; show Blk g _ ty (setAll (w.setCell ⟨g, pre.length, none⟩ v) g (pre.length + 1) r)
  simpa using h2
theorem Blk.puts_other {g g' : Nat} {cs : Array Value} {ty : TypeId} (hne : g ≠ g') : ∀ (vs : List Value) (o : Nat) (w : World), Blk g cs ty w -> Blk g cs ty (setAll w g' o vs)
 | [], _, _, h => h
 | v :: r, o, _, h => Blk.puts_other hne r (o + 1) _ (h.set_other hne o v)
theorem row_setAll {B k : Nat} {e : TypeId} {v : Value} {n : Nat} {xs : List Value} {g : Nat} {ty : TypeId} (hte : ty ≠ e) : ∀ (vs : List Value) (o : Nat) (w : World) (cs : Array Value), w.ownsRow B e k v n xs -> Blk g cs ty w -> (setAll w g o vs).ownsRow B e k v n xs
 | [], _, _, _, h, _ => h
 | u :: r, o, _, _, h, hg => row_setAll hte r (o + 1) _ _ (row_set h hg hte o u) (hg.set o u)
theorem but_setAll {b B g : Nat} (hg : B <= g) {w : World} : ∀ (vs : List Value) (o : Nat) (w1 : World), But b B w w1 -> But b B w (setAll w1 g o vs)
 | [], _, _, h => h
 | _ :: r, o, _, h => but_setAll hg r (o + 1) _ (but_set h hg)
theorem dice_setAll {b g : Nat} (hg : b < g) : ∀ (vs : List Value) (o : Nat) (w : World), Dice b w -> Dice b (setAll w g o vs)
 | [], _, _, h => h
 | _ :: r, o, _, h => dice_setAll hg r (o + 1) _ (dice_set h hg)
theorem below_setAll {B g : Nat} (hg : B <= g) {w : World} : ∀ (vs : List Value) (o : Nat) (w1 : World), Below B w w1 -> Below B w (setAll w1 g o vs)
 | [], _, _, h => h
 | _ :: r, o, _, h => below_setAll hg r (o + 1) _ (h.setCell hg _)
def RowI (lo : Nat) (w : World) (v : Value) (xs : List Int) : Prop := w.ownsRow lo 3 1 v xs.length (xs.map (Value.int .i64))
theorem RowI.one (lo : Nat) (w : World) (x : Int) (h : lo <= w.heap.size) : RowI lo (w.alloc (.cells #[.int .i64 x] 3)) (.slice (some ⟨w.heap.size, 0, none⟩) 1 1) [x] :=
 ⟨rfl, .inr ⟨w.heap.size, 1, #[.int .i64 x], rfl, h, heap_alloc_new w _, Nat.le_refl _, by decide, rfl, rfl⟩⟩
theorem RowI.nil (lo : Nat) (w : World) : RowI lo w (.slice none 0 0) [] := World.ownsRow_nil _ _ _ _
theorem RowI.slice {lo : Nat} {w : World} {v : Value} {xs : List Int} (h : RowI lo w v xs) : ∃ ao c, v = .slice ao xs.length c := by
 rcases h.2 with ⟨hv, h0⟩ | ⟨g, cap, cur, hv, _⟩
 ·exact ⟨none, 0, by rw [hv, h0]⟩
 ·exact ⟨_, _, hv⟩
theorem RowI.ints {lo : Nat} {w : World} {v : Value} {xs : List Int} (h : RowI lo w v xs) : ∃ ao c, v = .slice ao xs.length c /\ Ints w.heap.size w ao xs := by
 rcases h.2 with ⟨hv, h0⟩ | ⟨g, cap, cur, hv, r2, r3, r4, r5, _⟩
 ·refine ⟨none, 0, by rw [hv, h0], fun j x hj => ?_⟩; rw [List.eq_nil_of_length_eq_zero h0] at hj; simp at hj
 ·refine ⟨_, cap, hv, fun j x hj => ⟨_, rfl, (Array.getElem?_eq_some_iff.1 r3).1, ?_⟩⟩; subst hv; exact h.cells (g := g) rfl j _ (by simp [hj])
theorem RowI.snoc {lo : Nat} {w : World} {v : Value} {xs : List Int} {x : Int} (h : w.ownsRow lo 3 1 v (xs.length + 1) (xs.map (Value.int .i64) ++ [.int .i64 x])) : RowI lo w v (xs ++ [x]) := by
 unfold RowI; simpa using h
def Keep9 (b : Nat) (w w' : World) : Prop := ∀ g cs ty, ty ≠ 9 -> g ≠ b -> Blk g cs ty w -> Blk g cs ty w'
theorem Keep9.trans {b : Nat} {w w' w'' : World} (h : Keep9 b w w') (k : Keep9 b w' w'') : Keep9 b w w'' := fun g cs ty h1 h2 h3 => k g cs ty h1 h2 (h g cs ty h1 h2 h3)
theorem Keep9.made {b : Nat} {w w' : World} (h : Below w.heap.size w w') : Keep9 b w w' := fun _ _ _ _ _ h3 => h3.below h h3.lt
theorem put_blk {b B n g : Nat} {v u : Value} {ys : List Value} {x : Value} {w w' w1 : World} {cs : Array Value} {ty : TypeId} (h : Blk g cs ty w) (ht : ty ≠ 9) (hne : g ≠ b) (hb : Below w.drew.heap.size w.drew w') (hown : w'.ownsRow B 9 1 v n ys)
  (hg : (w'.alloc (.cells #[u] 9)).grownBy w1 v.ownBlock) : Blk g cs ty (w1.setCell ⟨b, 0, none⟩ x) :=
 ((((h.draw).below hb h.draw.lt).alloc _).grown (hown.alloc _) hg ht).set_other hne 0 x
theorem put_keep (b B : Nat) (xs parts : List ByteArray) (pb po c : Nat) (w : World) (hb : Buf b B xs w) (hB : B <= w.heap.size)
  (hp : ∀ (j : Nat) x, parts[j]? = some x -> w.cell? ⟨pb, po + j, none⟩ = some (.string x)) (hpb : pb < w.heap.size) (hc : parts.length <= c) (hn : parts.length <= 1000)
  (hlen : (parts.map (·.data.toList)).flatten.length <= 140737488355328) (hx : xs.length <= 1000000) :
  Calls Tryz.prog 172 #[.pointer (some ⟨b, 0, none⟩), .slice (some ⟨pb, po, none⟩) parts.length c] w fun e w' => e = .returned (.tuple #[]) /\ Buf b B (xs ++ [⟨((parts.map (·.data.toList)).flatten).toArray⟩]) w' /\ But b B w w' /\ Keep9 b w w' := by
 obtain ⟨i1, hj, hy0, hy2, hy3⟩ := info_parts infoString; obtain ⟨v, hbk, hown⟩ := hb.ex; have hbB := hb.lt; have HJ : Hid (∀ W : World, (∀ (j : Nat) x, parts[j]? = some x -> W.cell? ⟨pb, po + j, none⟩ = some (.string x)) -> pb < W.heap.size -> Calls Tryz.prog 249 #[.slice (some ⟨pb, po, none⟩) parts.length c, .string ⟨#[]⟩] W fun e w' => e = .returned (.string ⟨((parts.map (·.data.toList)).flatten).toArray⟩) /\ Below W.heap.size W w') := by
  intro W h1 h2; have := Tryz.strings_Join pb po c parts ⟨#[]⟩ W h1 h2 (by omega) hc (by rw [show (⟨#[]⟩ : ByteArray).data.toList = [] from rfl, join_nil]; exact hlen); rw [show (⟨#[]⟩ : ByteArray).data.toList = [] from rfl, join_nil] at this; exact this
 have HP := Lh hp; have HOWN := Lh hown; have HBK := Lh hbk; have hblt : b < w.heap.size := (Array.getElem?_eq_some_iff.1 hbk).1; have c0 : w.cell? ⟨b, 0, none⟩ = some v := by rw [Lib.cell_of_heap hbk]; rfl
 have f0 : w.frozen? ⟨b, 0, none⟩ = false := Lib.frozen_of_heap hbk 0; obtain ⟨L, hL⟩ : ∃ L, L = (⟨((parts.map (·.data.toList)).flatten).toArray⟩ : ByteArray) := ⟨_, rfl⟩
 rw [<- hL] at HJ; have HLL := Lh hL; clear hp hown hbk hlen hL; go_enter Tryz.func172, Tryz.ntmps172; go_wp2_with fail; go_region_law (first | (refine step_append_lies _ (by rfl) _ _ _ (by rfl) B 9 i1 _ 1 16 Tryz.underlying154 hj hy0 hy2 hy3 rfl (by omega) v xs.length (xs.map Value.string) (by rfl) (hownJ.alloc _) ⟨w'.heap.size, 0, none⟩ 1 1 [.string L] (by rfl) (by rfl) (cell_one _ _ _) (by simp [Value.oneCell']) (by omega) (by unfold maxLen; omega) (by omega) (by simp; omega) (w'.heap.size + 1) (by simp) ?_; intro gg cap w1 hown1 hgrow hat hlt; obtain ⟨cA, fA⟩ := put_kept hbkJ hownJ hbB hgrow) | (go_simp; go_at_call 249; refine (HJ.out _ (by simpa using HP.out) (by simpa using hpb)).mono ?_; rintro e w' ⟨rfl, hbw⟩; obtain ⟨hownJ, hbkJ, cJ, fJ, sJ, oJ⟩ := put_join HOWN.out HBK.out hblt hbw hB))
 all_goals
  go_end0
  refine ⟨rfl, ?_, ?_, ?_⟩
  ·rw [<- HLL.out]; exact put_buf hbkJ.out hownJ hbB hgrow hown1
  ·exact put_but (b := b) hbw hownJ hbB hB hgrow
  ·exact fun g cs ty ht hne h => put_blk h ht hne hbw hownJ hgrow
theorem put_parts2 (b B pb : Nat) (xs parts : List ByteArray) (W : World) (hpb : pb = W.heap.size) (hb : Buf b B xs W) (hB : B <= W.heap.size) (hn : parts.length <= 1000)
  (hlen : (parts.map (·.data.toList)).flatten.length <= 140737488355328) (hx : xs.length <= 1000000) :
  Calls Tryz.prog 172 #[.pointer (some ⟨b, 0, none⟩), .slice (some ⟨pb, 0, none⟩) parts.length parts.length] (W.alloc (.cells (parts.map Value.string).toArray 9)) fun e w' => e = .returned (.tuple #[]) /\ Buf b B (xs ++ [str (parts.map (·.data.toList)).flatten]) w' /\ But b B W w' /\ Keep9 b W w' := by
 subst hpb; have hal : Below W.heap.size W (W.alloc (.cells (parts.map Value.string).toArray 9)) := (Below.refl _ _).alloc (Nat.le_refl _) _; refine (put_keep b B xs parts W.heap.size 0 parts.length _ (hb.kept hal) (by simp; omega) ?_ (by simp) (Nat.le_refl _) hn hlen hx).mono ?_
 ·intro j x hj; rw [Nat.zero_add, World.cell?_alloc_at _ _ _ _ rfl]; simp [hj]
 ·rintro e w' ⟨h1, h2, h3, h4⟩; exact ⟨h1, h2, (But.of_below (hal.mono hB)).trans h3, (Keep9.made hal).trans h4⟩
end Go.Proofs.YtageielcdebjlaaGreatDoor
