/- The texts of dates and of times: both of the reference, and the program's times. The text of the rule of a series: recurrence.Format and the reference's. -/
import Derived.Test.YtageielcdebjlaaGreatDoorNum
import Derived.Test.YtageielcdebjlaaGreatDoorParseAll
import Derived.Test.YtageielcdebjlaaGreatDoorDaysAll
namespace Tt
/-- A day with a time of the day. -/
def stampL (day start : Int) : List UInt8 := dateL day ++ [84] ++ d2 (start / 60).toNat ++ d2 (start % 60).toNat ++ [48, 48]
theorem dateL_len (day : Int) : (dateL day).length = 8 := rfl
theorem stampL_len (day start : Int) : (stampL day start).length = 15 := rfl
/-- Some days with one time. -/
def stampsL (start : Int) : List Int → List UInt8
  | [] => []
  | [d] => stampL d start
  | d :: e :: r => stampL d start ++ 44 :: stampsL start (e :: r)
theorem stampsL_snoc (start d : Int) : ∀ xs : List Int, xs ≠ [] → stampsL start (xs ++ [d]) = stampsL start xs ++ 44 :: stampL d start
  | [], h => absurd rfl h
  | [x], _ => rfl
  | x :: y :: r, _ => by
    have := stampsL_snoc start d (y :: r) (by simp)
    show stampL x start ++ 44 :: stampsL start ((y :: r) ++ [d]) = _
    rw [this]
    show _ = (stampL x start ++ 44 :: stampsL start (y :: r)) ++ _
    rw [List.append_assoc]; rfl
theorem stampsL_len (start : Int) : ∀ xs : List Int, (stampsL start xs).length ≤ 16 * xs.length
  | [] => Nat.le_refl _
  | [x] => by show (stampL x start).length ≤ 16; rw [stampL_len]; decide
  | x :: y :: r => by
    have := stampsL_len start (y :: r)
    show (stampL x start ++ 44 :: stampsL start (y :: r)).length ≤ _
    rw [List.length_append, stampL_len, List.length_cons]
    simp only [List.length_cons] at this ⊢
    omega
theorem stampsL_join (start : Int) : ∀ xs : List Int, Go.Lib.join (xs.map fun d => stampL d start) [44] = stampsL start xs
  | [] => rfl
  | [x] => by rw [List.map_cons, Go.Lib.join_cons]; show stampL x start ++ [] = _; rw [List.append_nil]; rfl
  | x :: y :: r => by
    have := stampsL_join start (y :: r)
    rw [List.map_cons, Go.Lib.join_cons] at this
    rw [List.map_cons, Go.Lib.join_cons, List.map_cons]
    show stampL x start ++ ((44 :: stampL y start) ++ Go.Lib.joinTail [44] (r.map fun d => stampL d start)) = stampL x start ++ 44 :: stampsL start (y :: r)
    rw [← this]; rfl
theorem date_toNat {day : Int} (h0 : 0 ≤ day) (h1 : day ≤ 36524) : 2000 ≤ yOf day ∧ yOf day ≤ 2099 ∧ 1 ≤ mOf day ∧ mOf day ≤ 12 ∧ 1 ≤ dOf day ∧ dOf day ≤ 31 := by
  have h := date_some h0 h1; have := mlen_bd (yOf day) (mOf day)
  exact ⟨h.y0, h.y1, h.m0, h.m1, h.d0, by have := h.d1; omega⟩
end Tt
namespace Go.Proofs.YtageielcdebjlaaGreatDoor
open Go.RowKit

theorem str_size {l : List UInt8} {n : Nat} (h : l.length = n) : (ByteArray.mk l.toArray).size = n := by rw [Lib.size_eq]; simpa using h
theorem ret_bytes {a b : ByteArray} (h : a.data.toList = b.data.toList) : Ending.returned (.string a) = .returned (.string b) := by
  rw [show a = b from ByteArray.ext (Array.toList_inj.mp h)]
/-- The texts of a row of one's own, put together. -/
theorem join_row {lo : Nat} {w : World} {v : Value} {xs : List ByteArray} (sep : ByteArray) (h : w.ownsRow lo 9 1 v xs.length (xs.map Value.string)) (hn : xs.length ≤ 100000) (hs : (Lib.join (xs.map (·.data.toList)) sep.data.toList).length ≤ 140737488355328) :
    Calls Tryz.prog 249 #[v, .string sep] w fun e w' => e = .returned (.string ⟨(Lib.join (xs.map (·.data.toList)) sep.data.toList).toArray⟩) ∧ Below w.heap.size w w' := by
  rcases h.2 with ⟨hv, h0⟩ | ⟨g, cap, cur, hv, r2, r3, r4, r5⟩
  · have hx : xs = [] := List.eq_nil_of_length_eq_zero h0
    subst hx; subst hv; refine (Tryz.strings_Join_none none 0 sep w).mono ?_
    rintro e w' ⟨rfl, rfl⟩; exact ⟨rfl, Below.refl _ _⟩
  · have hc := h.cells (g := g) (by rw [hv]; rfl)
    subst hv; refine Tryz.strings_Join g 0 cap xs sep w (fun j x hj => ?_) (Array.getElem?_eq_some_iff.1 r3).1 (by omega) (by omega) hs
    have := hc j (.string x) (by rw [List.getElem?_map, hj]; rfl)
    rw [Addr.add_lit] at this
    exact this
theorem mk_bytes {a : ByteArray} {l : List UInt8} (h : a.data.toList = l) : a = ⟨l.toArray⟩ := ByteArray.ext (Array.toList_inj.mp (by rw [h]))
set_option maxRecDepth 100000 in
theorem date183 (day : Int) (w : World) (h0 : 0 ≤ day) (h1 : day ≤ 36524) : Calls Tryz.prog 183 #[.int .i64 day] w fun e w' => e = .returned (.string ⟨(Tt.dateL day).toArray⟩) ∧ Below w.heap.size w w' := by
  obtain ⟨y0, y1, m0, m1, d0, d1⟩ := Tt.date_toNat h0 h1
  have HR := Lib.hid (show Tt.dateL day = Tt.d4 (Tt.yOf day).toNat ++ Tt.d2 (Tt.mOf day).toNat ++ Tt.d2 (Tt.dOf day).toNat from rfl)
  have HY := Lib.hid (Tt.digR_four (n := (Tt.yOf day).toNat) (by omega))
  have HM := Lib.hid (Tt.digR_two (n := (Tt.mOf day).toNat) (by omega))
  have HD := Lib.hid (Tt.digR_two (n := (Tt.dOf day).toNat) (by omega))
  go_enter Tryz.func183, Tryz.ntmps183
  go_wp2_with fail
  refine (parts261 day w h0 h1).mono ?_
  rintro e w1 ⟨rfl, hw⟩; rw [hw]
  clear hw w1; generalize Tt.yOf day = y at *
  generalize Tt.mOf day = m at *
  generalize Tt.dOf day = d at *
  go_wp2_with fail
  refine (digits259 y 4 w (by omega) (by omega) (by omega)).mono ?_
  rintro e w1 ⟨rfl, hb1⟩; rw [HY.out]
  obtain ⟨s1, hs1⟩ : ∃ s, s = (⟨(Tt.d4 y.toNat).toArray⟩ : ByteArray) := ⟨_, rfl⟩
  have z1 : s1.size = 4 := by rw [hs1]; rfl
  rw [← hs1]; have HS1 := Lib.hid hs1; have HB1 := Lib.hid hb1; clear hs1 hb1; go_wp2_with fail
  refine (digits259 m 2 w1 (by omega) (by omega) (by omega)).mono ?_
  rintro e w2 ⟨rfl, hb2⟩; rw [HM.out]
  obtain ⟨s2, hs2⟩ : ∃ s, s = (⟨(Tt.d2 m.toNat).toArray⟩ : ByteArray) := ⟨_, rfl⟩
  have z2 : s2.size = 2 := by rw [hs2]; rfl
  rw [← hs2]; have HS2 := Lib.hid hs2; have HB2 := Lib.hid (HB1.out.trans (hb2.mono HB1.out.size))
  clear hs2 hb2; go_wp2_with fail
  refine (digits259 d 2 w2 (by omega) (by omega) (by omega)).mono ?_
  rintro e w3 ⟨rfl, hb3⟩; rw [HD.out]
  obtain ⟨s3, hs3⟩ : ∃ s, s = (⟨(Tt.d2 d.toNat).toArray⟩ : ByteArray) := ⟨_, rfl⟩
  have z3 : s3.size = 2 := by rw [hs3]; rfl
  rw [← hs3]; have HS3 := Lib.hid hs3; have HB3 := Lib.hid (HB2.out.trans (hb3.mono HB2.out.size))
  clear hs3 hb3; go_wp2_with fail
  go_ret; exact ⟨ret_bytes (by simp only [bs_app, HS1.out, HS2.out, HS3.out, HR.out]), HB3.out⟩
set_option maxRecDepth 100000 in
theorem stamp112 (day start : Int) (w : World) (h0 : 0 ≤ day) (h1 : day ≤ 36524) (s0 : 0 ≤ start) (s1 : start < 1440) : Calls Tryz.prog 112 #[.int .i64 day, .int .i64 start] w fun e w' => e = .returned (.string ⟨(Tt.stampL day start).toArray⟩) ∧ Below w.heap.size w w' := by
  have hq0 : 0 ≤ start / 60 := by omega
  have hq1 : start / 60 ≤ 24 := by omega
  have hr0 := Int.emod_nonneg start (show (60 : Int) ≠ 0 by omega)
  have hr1 := Int.emod_lt_of_pos start (show (0 : Int) < 60 by omega)
  have HR := Lib.hid (show Tt.stampL day start = Tt.dateL day ++ [84] ++ Tt.d2 (start / 60).toNat ++ Tt.d2 (start % 60).toNat ++ [48, 48] from rfl)
  have HQ := Lib.hid (Tt.decim_two (n := (start / 60).toNat) (by omega))
  have HM := Lib.hid (Tt.decim_two (n := (start % 60).toNat) (by omega))
  go_enter Tryz.func112, Tryz.ntmps112
  go_wp2_with fail
  refine (date183 day w h0 h1).mono ?_
  rintro e w1 ⟨rfl, hb1⟩; obtain ⟨s1, hs1⟩ : ∃ s, s = (⟨(Tt.dateL day).toArray⟩ : ByteArray) := ⟨_, rfl⟩
  have z1 : s1.size = 8 := by rw [hs1]; rfl
  rw [← hs1]; have HS1 := Lib.hid hs1; have HB1 := Lib.hid hb1; clear hs1 hb1; go_wp2_with fail
  refine (decimal110 (start / 60) 2 w1 hq0 (by omega) (by omega) (by omega)).mono ?_
  rintro e w2 ⟨rfl, hb2⟩; rw [show (2 : Int).toNat = 2 from rfl, HQ.out]
  obtain ⟨s2, hs2⟩ : ∃ s, s = (⟨(Tt.d2 (start / 60).toNat).toArray⟩ : ByteArray) := ⟨_, rfl⟩
  have z2 : s2.size = 2 := by rw [hs2]; rfl
  rw [← hs2]; have HS2 := Lib.hid hs2; have HB2 := Lib.hid (HB1.out.trans (hb2.mono HB1.out.size))
  clear hs2 hb2; go_wp2_with fail
  refine (decimal110 (start % 60) 2 w2 hr0 (by omega) (by omega) (by omega)).mono ?_
  rintro e w3 ⟨rfl, hb3⟩; rw [show (2 : Int).toNat = 2 from rfl, HM.out]
  obtain ⟨s3, hs3⟩ : ∃ s, s = (⟨(Tt.d2 (start % 60).toNat).toArray⟩ : ByteArray) := ⟨_, rfl⟩
  have z3 : s3.size = 2 := by rw [hs3]; rfl
  rw [← hs3]; have HS3 := Lib.hid hs3; have HB3 := Lib.hid (HB2.out.trans (hb3.mono HB2.out.size))
  clear hs3 hb3; go_wp2_with fail
  go_ret; exact ⟨ret_bytes (by simp only [bs_app, HS1.out, HS2.out, HS3.out, HR.out]), HB3.out⟩
set_option maxRecDepth 100000 in
set_option maxHeartbeats 1000000 in
theorem stamps113 (xs : List Int) (ao : Option Addr) (c : Nat) (start : Int) (B : Nat) (w : World) (hB : B ≤ w.heap.size) (hI : Ints B w ao xs) (hn : xs.length ≤ 1000) (hd : ∀ d ∈ xs, 0 ≤ d ∧ d ≤ 36524) (s0 : 0 ≤ start) (s1 : start < 1440) :
    Calls Tryz.prog 113 #[.slice ao xs.length c, .int .i64 start] w fun e w' => e = .returned (.string ⟨(Tt.stampsL start xs).toArray⟩) ∧ Below w.heap.size w w' := by
  have HI := Lib.hid hI; have HDD := Lib.hid hd; obtain ⟨n, hnn⟩ : ∃ n, n = xs.length := ⟨_, rfl⟩
  have HN := Lib.hid hnn; rw [← hnn] at hn ⊢
  clear hI hd hnn; go_enter Tryz.func113, Tryz.ntmps113
  go_wp2_with fail
  go_loopw [5, 6] (fun sv iv wr => ∃ (i : Nat) (s : ByteArray), sv = .string s ∧ iv = .int .i64 i ∧ i ≤ n ∧ s.size ≤ 16 * i ∧ Hid (s.data.toList = Tt.stampsL start (xs.take i)) ∧ Hid (Below w.heap.size w wr)) (fun _ iv _ => n - (intOf iv).toNat)
  case atStart => exact ⟨0, ⟨#[]⟩, rfl, rfl, Nat.zero_le _, by decide, Lib.hid rfl, Lib.hid (Below.refl _ _)⟩
  case round =>
    obtain ⟨i, s, rfl, rfl, hi, hs, HS, HB⟩ := hrel; by_cases hlt : i < n
    · have hx : i < xs.length := by rw [← HN.out]; exact hlt
      have hlti : (i : Int) < n := by omega
      obtain ⟨bo, oo, hao, hbo, hcell⟩ := (HI.out.below (HB.out.mono hB)).form (by omega)
      obtain ⟨x, hxe⟩ : ∃ x, x = xs[i] := ⟨_, rfl⟩
      have hc := hcell i x (by rw [hxe]; exact List.getElem?_eq_getElem hx)
      have hxd := HDD.out x (by rw [hxe]; exact List.getElem_mem hx)
      have HT := Lib.hid (show xs.take (i + 1) = xs.take i ++ [x] from by rw [List.take_succ_eq_append_getElem hx, hxe])
      clear hcell hxe hbo; subst hao; by_cases hi0 : i = 0
      · subst hi0; have HS0 := Lib.hid (show s.data.toList = [] from HS.out)
        rw [Nat.add_zero] at hc
        go_wp2_with fail
        refine (stamp112 x start wr hxd.1 hxd.2 s0 s1).mono ?_
        rintro e w1 ⟨rfl, hb1⟩; obtain ⟨s2, hs2⟩ : ∃ s, s = (⟨(Tt.stampL x start).toArray⟩ : ByteArray) := ⟨_, rfl⟩
        have z2 : s2.size = 15 := by rw [hs2]; rfl
        rw [← hs2]; have HS2 := Lib.hid hs2; have HB1 := Lib.hid (HB.out.trans (hb1.mono HB.out.size))
        clear hs2 hb1; go_wp2_with fail
        go_roundw
        case rel => exact ⟨1, s ++ s2, rfl, by go_num, by omega, by rw [bs_size]; omega, Lib.hid (by rw [HT.out, bs_app, HS0.out, HS2.out]; rfl), HB1⟩
        case measure => simp [intOf]; omega
      · have hip : (0 : Int) < i := by omega
        have HSN := Lib.hid (show Tt.stampsL start (xs.take (i + 1)) = Tt.stampsL start (xs.take i) ++ 44 :: Tt.stampL x start from by rw [HT.out]; exact Tt.stampsL_snoc start x _ (fun h => by have h2 := congrArg List.length h; rw [List.length_take, List.length_nil] at h2; omega))
        clear hi0; go_wp2_with fail
        refine (stamp112 x start wr hxd.1 hxd.2 s0 s1).mono ?_
        rintro e w1 ⟨rfl, hb1⟩; obtain ⟨s2, hs2⟩ : ∃ s, s = (⟨(Tt.stampL x start).toArray⟩ : ByteArray) := ⟨_, rfl⟩
        have z2 : s2.size = 15 := by rw [hs2]; rfl
        rw [← hs2]; have HS2 := Lib.hid hs2; have HB1 := Lib.hid (HB.out.trans (hb1.mono HB.out.size))
        clear hs2 hb1; go_wp2_with fail
        go_roundw
        case rel => exact ⟨i + 1, s ++ ⟨#[44]⟩ ++ s2, rfl, by go_num, by omega, by rw [bs_size, bs_size, show (⟨#[44]⟩ : ByteArray).size = 1 from rfl]; omega, Lib.hid (by rw [HSN.out, bs_app, bs_app, HS.out, HS2.out, List.append_assoc]; rfl), HB1⟩
        case measure => simp [intOf]; omega
    · have HE := Lib.hid (show xs.take i = xs from by rw [List.take_of_length_le (by rw [← HN.out]; omega)])
      have hlti : ¬ (i : Int) < n := by omega
      go_wp2_with fail
      go_ret; exact ⟨ret_bytes (by rw [HS.out, HE.out]), HB.out⟩
set_option maxRecDepth 100000 in
set_option maxHeartbeats 2000000 in
theorem times251 (xs : List Int) (ao : Option Addr) (c : Nat) (start : Int) (B : Nat) (w : World) (hB : B ≤ w.heap.size) (hI : Ints B w ao xs) (hn : xs.length ≤ 1000) (hd : ∀ d ∈ xs, 0 ≤ d ∧ d ≤ 36524) (s0 : 0 ≤ start) (s1 : start < 1440) (hL : Lens w) (hP : Pow w) (h6 : 6 < w.heap.size) :
    Calls Tryz.prog 251 #[.slice ao xs.length c, .int .i64 start] w fun e w' => e = .returned (.string ⟨(Tt.stampsL start xs).toArray⟩) ∧ Below w.heap.size w w' := by
  obtain ⟨i1, hj, hy0, hy2, hy3⟩ := info_parts infoString
  have HI := Lib.hid hI; have HDD := Lib.hid hd; have HL := Lib.hid hL; have HP := Lib.hid hP; have hq0 : 0 ≤ start / 60 := by omega
  have hq1 : start / 60 ≤ 24 := by omega
  have hr0 := Int.emod_nonneg start (show (60 : Int) ≠ 0 by omega)
  have hr1 := Int.emod_lt_of_pos start (show (0 : Int) < 60 by omega)
  obtain ⟨n, hnn⟩ : ∃ n, n = xs.length := ⟨_, rfl⟩
  have HN := Lib.hid hnn; rw [← hnn] at hn ⊢
  clear hI hd hnn hL hP; go_enter Tryz.func251, Tryz.ntmps251
  go_wp2_with fail
  go_loopw [5, 14] (fun ov iv wr => ∃ (i : Nat), iv = .int .i64 i ∧ i ≤ n ∧ Hid (wr.ownsRow w.heap.size 9 1 ov i ((xs.take i).map fun d => Value.string ⟨(Tt.stampL d start).toArray⟩)) ∧ Hid (Below w.heap.size w wr)) (fun _ iv _ => n - (intOf iv).toNat)
  case atStart => exact ⟨0, rfl, Nat.zero_le _, Lib.hid (World.ownsRow_nil _ _ _ _), Lib.hid (Below.refl _ _)⟩
  case round =>
    obtain ⟨i, rfl, hi, HO, HB⟩ := hrel; have hsz := HB.out.size; by_cases hlt : i < n
    · have hx : i < xs.length := by rw [← HN.out]; exact hlt
      have hlti : (i : Int) < n := by omega
      obtain ⟨bo, oo, hao, hbo, hcell⟩ := (HI.out.below (HB.out.mono hB)).form (by omega)
      obtain ⟨x, hxe⟩ : ∃ x, x = xs[i] := ⟨_, rfl⟩
      have hc := hcell i x (by rw [hxe]; exact List.getElem?_eq_getElem hx)
      have hxd := HDD.out x (by rw [hxe]; exact List.getElem_mem hx)
      have HT := Lib.hid (show xs.take (i + 1) = xs.take i ++ [x] from by rw [List.take_succ_eq_append_getElem hx, hxe])
      clear hcell hxe hbo; subst hao; obtain ⟨y0, y1, m0, m1, d0, d1⟩ := Tt.date_toNat hxd.1 hxd.2
      have HR := Lib.hid (show Tt.stampL x start = Tt.d4 (Tt.yOf x).toNat ++ Tt.d2 (Tt.mOf x).toNat ++ Tt.d2 (Tt.dOf x).toNat ++ [84] ++ Tt.d2 (start / 60).toNat ++ Tt.d2 (start % 60).toNat ++ [48, 48] from rfl)
      have HY := Lib.hid (Tt.padD_four (n := (Tt.yOf x).toNat) (by omega) (by omega))
      have HM := Lib.hid (Tt.padD_two (n := (Tt.mOf x).toNat) (by omega))
      have HD := Lib.hid (Tt.padD_two (n := (Tt.dOf x).toNat) (by omega))
      have HQ := Lib.hid (Tt.padD_two (n := (start / 60).toNat) (by omega))
      have HU := Lib.hid (Tt.padD_two (n := (start % 60).toNat) (by omega))
      go_wp2_with fail
      refine (parts308 x wr (HL.out.below (by omega) HB.out) hxd.1 hxd.2).mono ?_
      rintro e w1 ⟨rfl, hw⟩; rw [hw]
      clear hw w1; generalize Tt.yOf x = y at *
      generalize Tt.mOf x = m at *
      generalize Tt.dOf x = d at *
      have HB0 := Lib.hid (show Below wr.heap.size wr wr from Below.refl _ _)
      have HP0 := Lib.hid (HP.out.below h6 HB.out)
      have h6r : 6 < wr.heap.size := by omega
      go_wp2_with fail
      refine (digits310 y 4 wr (HP0.out.below h6r HB0.out) (by omega) (by omega) (by omega)).mono ?_
      rintro e w1 ⟨rfl, hb1⟩; rw [HY.out]
      obtain ⟨s1, hs1⟩ : ∃ s, s = (⟨(Tt.d4 y.toNat).toArray⟩ : ByteArray) := ⟨_, rfl⟩
      have z1 : s1.size = 4 := by rw [hs1]; rfl
      rw [← hs1]; have HS1 := Lib.hid hs1; have HB1 := Lib.hid (HB0.out.trans (hb1.mono HB0.out.size))
      clear hs1 hb1; go_wp2_with fail
      refine (digits310 m 2 w1 (HP0.out.below h6r HB1.out) (by omega) (by omega) (by omega)).mono ?_
      rintro e w2 ⟨rfl, hb2⟩; rw [HM.out]
      obtain ⟨s2, hs2⟩ : ∃ s, s = (⟨(Tt.d2 m.toNat).toArray⟩ : ByteArray) := ⟨_, rfl⟩
      have z2 : s2.size = 2 := by rw [hs2]; rfl
      rw [← hs2]; have HS2 := Lib.hid hs2; have HB2 := Lib.hid (HB1.out.trans (hb2.mono HB1.out.size))
      clear hs2 hb2; go_wp2_with fail
      refine (digits310 d 2 w2 (HP0.out.below h6r HB2.out) (by omega) (by omega) (by omega)).mono ?_
      rintro e w3 ⟨rfl, hb3⟩; rw [HD.out]
      obtain ⟨s3, hs3⟩ : ∃ s, s = (⟨(Tt.d2 d.toNat).toArray⟩ : ByteArray) := ⟨_, rfl⟩
      have z3 : s3.size = 2 := by rw [hs3]; rfl
      rw [← hs3]; have HS3 := Lib.hid hs3; have HB3 := Lib.hid (HB2.out.trans (hb3.mono HB2.out.size))
      clear hs3 hb3; go_wp2_with fail
      refine (digits310 (start / 60) 2 w3 (HP0.out.below h6r HB3.out) hq0 (by omega) (by omega)).mono ?_
      rintro e w4 ⟨rfl, hb4⟩; rw [HQ.out]
      obtain ⟨s4, hs4⟩ : ∃ s, s = (⟨(Tt.d2 (start / 60).toNat).toArray⟩ : ByteArray) := ⟨_, rfl⟩
      have z4 : s4.size = 2 := by rw [hs4]; rfl
      rw [← hs4]; have HS4 := Lib.hid hs4; have HB4 := Lib.hid (HB3.out.trans (hb4.mono HB3.out.size))
      clear hs4 hb4; go_wp2_with fail
      refine (digits310 (start % 60) 2 w4 (HP0.out.below h6r HB4.out) hr0 (by omega) (by omega)).mono ?_
      rintro e w5 ⟨rfl, hb5⟩; rw [HU.out]
      obtain ⟨s5, hs5⟩ : ∃ s, s = (⟨(Tt.d2 (start % 60).toNat).toArray⟩ : ByteArray) := ⟨_, rfl⟩
      have z5 : s5.size = 2 := by rw [hs5]; rfl
      rw [← hs5]; have HS5 := Lib.hid hs5; have HB5 := Lib.hid (HB4.out.trans (hb5.mono HB4.out.size))
      clear hs5 hb5; have HO5 := Lib.hid (ownsRow_below HO.out HB5.out)
      have hs5z := HB5.out.size; obtain ⟨S, hS⟩ : ∃ S, S = s1 ++ s2 ++ s3 ++ ⟨#[84]⟩ ++ s4 ++ s5 ++ ⟨#[48, 48]⟩ := ⟨_, rfl⟩
      have HSS := Lib.hid hS; have HSX := Lib.hid (show S = ⟨(Tt.stampL x start).toArray⟩ from mk_bytes (by rw [hS]; simp only [bs_app, HS1.out, HS2.out, HS3.out, HS4.out, HS5.out, HR.out]))
      clear hS; go_wp2_with (at_builtin; refine wpList_append_own_at _ rfl (.tmp 25) (.tmp 44) 60 rfl w.heap.size 9 i1 (.string ⟨#[]⟩) 1 16 Tryz.underlying60 hj hy0 hy2 hy3 rfl (by decide) _ _ _ rfl (HO5.out.alloc _) ⟨w5.heap.size, 0, none⟩ 1 1 [.string S] rfl rfl (by rw [HSS.out]; exact cell_one _ _ _) (by intro u hu; simp at hu; subst hu; rfl) (by unfold maxLen; omega) (by omega) (by simp; omega) ?_)
      intro v' w6 hown6 hgrow _ hat; have HB6 := Lib.hid (show Below w.heap.size w w6 from HB.out.trans ((HB5.out.mono hsz).trans (((Below.refl _ w5).alloc (by omega) _).grown hgrow (by simp; omega) (fun k hk => (HO5.out.lt k hk).1))))
      have HO6 := Lib.hid (show w6.ownsRow w.heap.size 9 1 v' (i + 1) ((xs.take (i + 1)).map fun d => Value.string ⟨(Tt.stampL d start).toArray⟩) from by rw [HT.out, List.map_append, List.map_cons, List.map_nil, ← HSX.out, List.map_take]; exact hown6)
      clear hown6 hgrow hat; go_wp2_with fail
      go_roundw
      case rel => exact ⟨i + 1, by go_num, by omega, HO6, HB6⟩
      case measure => simp [intOf]; omega
    · have hlti : ¬ (i : Int) < n := by omega
      have HE := Lib.hid (show xs.take i = xs from by rw [List.take_of_length_le (by rw [← HN.out]; omega)])
      have hin : i = n := by omega
      have HJ : Hid (Calls Tryz.prog 249 #[u5, .string ⟨#[44]⟩] wr fun e w' => e = .returned (.string ⟨(Tt.stampsL start xs).toArray⟩) ∧ Below wr.heap.size wr w') := Lib.hid (by
        have ho := HO.out; rw [HE.out, hin, HN.out, show (xs.map fun d => Value.string ⟨(Tt.stampL d start).toArray⟩) = (xs.map fun d => (⟨(Tt.stampL d start).toArray⟩ : ByteArray)).map Value.string from by rw [List.map_map]; rfl, show xs.length = (xs.map fun d => (⟨(Tt.stampL d start).toArray⟩ : ByteArray)).length from by rw [List.length_map]] at ho
        have hjn : Lib.join ((xs.map fun d => (⟨(Tt.stampL d start).toArray⟩ : ByteArray)).map (·.data.toList)) (⟨#[44]⟩ : ByteArray).data.toList = Tt.stampsL start xs := by rw [List.map_map]; exact Tt.stampsL_join start xs
        have hl := Tt.stampsL_len start xs; have hn2 := HN.out; have h := join_row ⟨#[44]⟩ ho (by rw [List.length_map]; omega) (by rw [hjn]; omega)
        rw [hjn] at h
        exact h)
      clear hin; go_wp2_with fail
      refine HJ.out.mono ?_
      rintro e w7 ⟨rfl, hb7⟩; have HB7 := Lib.hid (HB.out.trans (hb7.mono hsz))
      clear hb7 HJ; go_wp2_with fail
      go_ret; exact ⟨rfl, HB7.out⟩
end Go.Proofs.YtageielcdebjlaaGreatDoor
namespace Tt
def nameW (d : Nat) : List UInt8 := ([[77, 79], [84, 85], [87, 69], [84, 72], [70, 82], [83, 65], [83, 85]] : List (List UInt8)).getD d []
/-- The weekdays of a set, ahead of k. -/
def wdays (wd : Int) (k : Nat) : List Nat := (List.range k).filter fun d => bit wd d
def byL (wd : Int) (k : Nat) : List UInt8 := Go.Lib.join ((wdays wd k).map nameW) [44]
def ruleL (s : Ser) : List UInt8 := [70, 82, 69, 81, 61, 87, 69, 69, 75, 76, 89, 59, 73, 78, 84, 69, 82, 86, 65, 76, 61] ++ Go.Lib.decDigits s.every.toNat ++ [59, 66, 89, 68, 65, 89, 61] ++ byL s.wd 7 ++ [59, 85, 78, 84, 73, 76, 61] ++ dateL s.last
theorem wdays_step (wd : Int) (k : Nat) : wdays wd (k + 1) = if bit wd k = true then wdays wd k ++ [k] else wdays wd k := by
  unfold wdays
  rw [List.range_succ, List.filter_append]
  by_cases h : bit wd k = true
  · rw [if_pos h, List.filter_cons_of_pos (p := fun d : Nat => bit wd d) h]; rfl
  · rw [if_neg h, List.filter_cons_of_neg (p := fun d : Nat => bit wd d) h, List.filter_nil, List.append_nil]
theorem wdays_len (wd : Int) (k : Nat) : (wdays wd k).length ≤ k := by
  unfold wdays
  exact Nat.le_trans (List.length_filter_le _ _) (by rw [List.length_range]; exact Nat.le_refl _)
theorem join_snoc (sep x : List UInt8) : ∀ xs : List (List UInt8), xs ≠ [] → Go.Lib.join (xs ++ [x]) sep = Go.Lib.join xs sep ++ sep ++ x
  | [], h => absurd rfl h
  | y :: r, _ => by
    rw [List.cons_append, Go.Lib.join_cons, Go.Lib.join_cons]
    unfold Go.Lib.joinTail
    simp
theorem byL_step {wd : Int} {k : Nat} (h : bit wd k = true) : byL wd (k + 1) = byL wd k ++ (if wdays wd k = [] then [] else [44]) ++ nameW k := by
  unfold byL
  rw [wdays_step, if_pos h, List.map_append, List.map_cons, List.map_nil]
  by_cases h0 : wdays wd k = []
  · rw [if_pos h0, h0]
    show Go.Lib.join [nameW k] [44] = [] ++ [] ++ nameW k
    rw [Go.Lib.join_cons]
    show nameW k ++ [] = _
    simp
  · rw [if_neg h0, join_snoc [44] (nameW k) _ (by simpa using h0)]
theorem byL_same {wd : Int} {k : Nat} (h : bit wd k = false) : byL wd (k + 1) = byL wd k := by
  unfold byL
  rw [wdays_step, if_neg (by simp [h])]
theorem nameW_len {k : Nat} (h : k < 7) : (nameW k).length = 2 := (show ∀ k : Nat, k < 7 → (nameW k).length = 2 by decide) k h
theorem byL_len (wd : Int) : ∀ k : Nat, k ≤ 7 → (byL wd k).length ≤ 3 * k
  | 0, _ => by show (Go.Lib.join [] [44]).length ≤ 0; rw [Go.Lib.join_nil]; exact Nat.le_refl _
  | k + 1, h => by
    have ih := byL_len wd k (by omega)
    cases hb : bit wd k with
    | false => rw [byL_same hb]; omega
    | true =>
      rw [byL_step hb, List.length_append, List.length_append, nameW_len (by omega)]
      split <;> simp <;> omega
end Tt
namespace Go.Proofs.YtageielcdebjlaaGreatDoor
open Go.RowKit

theorem ret_code {a a' : ByteArray} {c : Int} (h : a = a') : Ending.returned (.tuple #[.string a, .int .i64 c]) = .returned (.tuple #[.string a', .int .i64 c]) := by rw [h]
theorem names_at {i : Nat} (h : i < 7) : (ByteArray.mk #[77, 79, 84, 85, 87, 69, 84, 72, 70, 82, 83, 65, 83, 85]).extract (2 * i) (2 * i + 2) = ⟨(Tt.nameW i).toArray⟩ := by
  rcases (show i = 0 ∨ i = 1 ∨ i = 2 ∨ i = 3 ∨ i = 4 ∨ i = 5 ∨ i = 6 by omega) with rfl | rfl | rfl | rfl | rfl | rfl | rfl <;> rfl
set_option maxRecDepth 100000 in
set_option maxHeartbeats 2000000 in
theorem format250 (s : Tt.Ser) (B : Nat) (w : World) (hs : Tt.serV s = 0) (ao ao' : Option Addr) (c c' : Nat) (hB : B ≤ w.heap.size) (hI : Ints B w ao s.ex) (hI' : Ints B w ao' s.xt) (hL : Lens w) (hP : Pow w) (h6 : 6 < w.heap.size) :
    Calls Tryz.prog 250 #[serVal s (.slice ao s.ex.length c) (.slice ao' s.xt.length c')] w fun e w' => e = .returned (.tuple #[.string ⟨(Tt.ruleL s).toArray⟩, .int .i64 0]) ∧ Below w.heap.size w w' := by
  obtain ⟨i1, hj, hy0, hy2, hy3⟩ := info_parts infoString
  have hh := ((Tt.serV_zero s).1 hs).1
  have he0 := hh.e0; have he1 := hh.e1; have hl0 := hh.l0; have hl1 := hh.l1; have hw0 := hh.w0; have hw1 := hh.w1; have HV : Hid (Calls Tryz.prog 145 #[serVal s (.slice ao s.ex.length c) (.slice ao' s.xt.length c')] (w.alloc (.cells #[.int .i64 s.first, .int .i64 s.last, .int .i64 s.every, .int .i64 s.wd, .slice ao s.ex.length c, .slice ao' s.xt.length c'] 80)) fun e w' => e = .returned (.int .i64 0) ∧ Below (w.heap.size + 1) (w.alloc (.cells #[.int .i64 s.first, .int .i64 s.last, .int .i64 s.every, .int .i64 s.wd, .slice ao s.ex.length c, .slice ao' s.xt.length c'] 80)) w') := Lib.hid (by
    have hb := below_box w (.cells #[.int .i64 s.first, .int .i64 s.last, .int .i64 s.every, .int .i64 s.wd, .slice ao s.ex.length c, .slice ao' s.xt.length c'] 80)
    have h := valid145_any s B (w.alloc (.cells #[.int .i64 s.first, .int .i64 s.last, .int .i64 s.every, .int .i64 s.wd, .slice ao s.ex.length c, .slice ao' s.xt.length c'] 80)) (by have := hh.n; omega) (by have := hh.n; omega) ao ao' c c' (by simp; omega) (hI.below (hb.mono hB)) (hI'.below (hb.mono hB))
    rw [hs] at h
    refine h.mono fun e w' h2 => ⟨h2.1, h2.2.mono (by simp)⟩)
  have S0 : SerAt w.heap.size s (.slice ao s.ex.length c) (.slice ao' s.xt.length c') (w.alloc (.cells #[.int .i64 s.first, .int .i64 s.last, .int .i64 s.every, .int .i64 s.wd, .slice ao s.ex.length c, .slice ao' s.xt.length c'] 80)) := heap_alloc_new w _
  have HS0 := Lib.hid S0; have HB0 := Lib.hid (below_box w (.cells #[.int .i64 s.first, .int .i64 s.last, .int .i64 s.every, .int .i64 s.wd, .slice ao s.ex.length c, .slice ao' s.xt.length c'] 80))
  have HL := Lib.hid hL; have HP := Lib.hid hP; obtain ⟨w0, hw00⟩ : ∃ w0, w0 = w.alloc (.cells #[.int .i64 s.first, .int .i64 s.last, .int .i64 s.every, .int .i64 s.wd, .slice ao s.ex.length c, .slice ao' s.xt.length c'] 80) := ⟨_, rfl⟩
  rw [← hw00] at HV HS0 HB0
  obtain ⟨ex, hex⟩ : ∃ n, n = s.ex.length := ⟨_, rfl⟩
  obtain ⟨xt, hxt⟩ : ∃ n, n = s.xt.length := ⟨_, rfl⟩
  unfold serVal at HV ⊢
  rw [← hex, ← hxt] at HV HS0 hw00 ⊢
  clear S0 hI hI' hL hP hh hs hex hxt; obtain ⟨e0, e1, e2, e3, e4, e5⟩ := HS0.out.cells
  go_enter Tryz.func250, Tryz.ntmps250
  go_upto_region 1 with (fail)
  rw [← hw00]; clear hw00; go_wp2_with fail
  refine HV.out.mono ?_
  rintro e w1 ⟨rfl, hb1⟩; have HB1 := Lib.hid hb1; clear hb1 HV e0 e1 e2 e3 e4 e5; have hsz0 := HS0.out.lt; have HS1 := Lib.hid (show SerAt w.heap.size s (.slice ao ex c) (.slice ao' xt c') w1 from (HB1.out.block w.heap.size (by omega)).trans HS0.out)
  have HBW := Lib.hid (show Below w.heap.size w w1 from HB0.out.trans (HB1.out.mono (by omega)))
  clear HS0 HB0 HB1; go_wp2_with fail
  go_loopw [5, 17] (fun ov iv wr => ∃ (i : Nat), iv = .int .i64 i ∧ i ≤ 7 ∧ Hid (wr.ownsRow (w.heap.size + 1) 9 1 ov (Tt.wdays s.wd i).length ((Tt.wdays s.wd i).map fun d => Value.string ⟨(Tt.nameW d).toArray⟩)) ∧ Hid (SerAt w.heap.size s (.slice ao ex c) (.slice ao' xt c') wr) ∧ Hid (Below w.heap.size w wr)) (fun _ iv _ => 7 - (intOf iv).toNat)
  case atStart => exact ⟨0, rfl, Nat.zero_le _, Lib.hid (World.ownsRow_nil _ _ _ _), HS1, HBW⟩
  case round =>
    clear HS1 HBW; obtain ⟨i, rfl, hi, HO, HS, HB⟩ := hrel; have hsz := HS.out.lt; obtain ⟨e0, e1, e2, e3, e4, e5⟩ := HS.out.cells
    by_cases hlt : i < 7
    · have hlti : (i : Int) < 7 := by omega
      have HBT := Lib.hid (show (bits .and .i64 (s.wd / 2 ^ i) 1 == 1) = Tt.bit s.wd (i : Int) from bit_is s.wd (i : Int) hw0 (by omega))
      cases hb : (bits .and .i64 (s.wd / 2 ^ i) 1 == 1)
      · have HST := Lib.hid (show Tt.wdays s.wd (i + 1) = Tt.wdays s.wd i from by rw [Tt.wdays_step, if_neg (by rw [← HBT.out, hb]; simp)])
        clear HBT; go_wp2_with fail
        go_roundw
        case rel => exact ⟨i + 1, by go_num, by omega, by rw [HST.out]; exact HO, HS, HB⟩
        case measure => simp [intOf]; omega
      · have HST := Lib.hid (show Tt.wdays s.wd (i + 1) = Tt.wdays s.wd i ++ [i] from by rw [Tt.wdays_step, if_pos (by rw [← HBT.out, hb])])
        have HNA := Lib.hid (names_at hlt)
        have hwl := Tt.wdays_len s.wd i
        clear HBT; go_wp2_with (at_builtin; refine wpList_append_own_at _ rfl (.tmp 26) (.tmp 33) 60 rfl (w.heap.size + 1) 9 i1 (.string ⟨#[]⟩) 1 16 Tryz.underlying60 hj hy0 hy2 hy3 rfl (by decide) _ _ _ rfl (HO.out.alloc _) ⟨wr.heap.size, 0, none⟩ 1 1 [.string ⟨(Tt.nameW i).toArray⟩] rfl rfl (by rw [HNA.out]; exact cell_one _ _ _) (by intro u hu; simp at hu; subst hu; rfl) (by unfold maxLen; omega) (by omega) (by simp; omega) ?_)
        intro v' w6 hown6 hgrow _ hat; have HBL := Lib.hid (show Below (w.heap.size + 1) wr w6 from ((Below.refl _ wr).alloc (by omega) _).grown hgrow (by simp; omega) (fun k hk => (HO.out.lt k hk).1))
        have HB6 := Lib.hid (HB.out.trans (HBL.out.mono (by omega)))
        have HS6 := Lib.hid (show SerAt w.heap.size s (.slice ao ex c) (.slice ao' xt c') w6 from (HBL.out.block w.heap.size (by omega)).trans HS.out)
        have HO6 := Lib.hid (show w6.ownsRow (w.heap.size + 1) 9 1 v' (Tt.wdays s.wd (i + 1)).length ((Tt.wdays s.wd (i + 1)).map fun d => Value.string ⟨(Tt.nameW d).toArray⟩) from by rw [HST.out, List.length_append, List.map_append, List.map_cons, List.map_nil]; exact hown6)
        clear hown6 hgrow hat; go_wp2_with fail
        go_roundw
        case rel => exact ⟨i + 1, by go_num, by omega, HO6, HS6, HB6⟩
        case measure => simp [intOf]; omega
    · have hlti : ¬ (i : Int) < 7 := by omega
      have hi7 : i = 7 := by omega
      subst hi7; have HBL := Lib.hid (Tt.byL_len s.wd 7 (by omega))
      have HJ : Hid (∀ W : World, Below wr.heap.size wr W → Calls Tryz.prog 249 #[u5, .string ⟨#[44]⟩] W fun e w' => e = .returned (.string ⟨(Tt.byL s.wd 7).toArray⟩) ∧ Below W.heap.size W w') := Lib.hid (by
        intro W hW; have ho := ownsRow_below HO.out hW
        have hl := Tt.wdays_len s.wd 7
        rw [show ((Tt.wdays s.wd 7).map fun d => Value.string ⟨(Tt.nameW d).toArray⟩) = ((Tt.wdays s.wd 7).map fun d => (⟨(Tt.nameW d).toArray⟩ : ByteArray)).map Value.string from by rw [List.map_map]; rfl, show (Tt.wdays s.wd 7).length = ((Tt.wdays s.wd 7).map fun d => (⟨(Tt.nameW d).toArray⟩ : ByteArray)).length from by rw [List.length_map]] at ho
        have hjn : Lib.join (((Tt.wdays s.wd 7).map fun d => (⟨(Tt.nameW d).toArray⟩ : ByteArray)).map (·.data.toList)) (⟨#[44]⟩ : ByteArray).data.toList = Tt.byL s.wd 7 := by rw [List.map_map]; rfl
        have h := join_row ⟨#[44]⟩ ho (by rw [List.length_map]; omega) (by rw [hjn]; have := HBL.out; omega)
        rw [hjn] at h
        exact h)
      obtain ⟨y0, y1, m0, m1, d0, d1⟩ := Tt.date_toNat hl0 hl1
      have HR := Lib.hid (show Tt.ruleL s = [70, 82, 69, 81, 61, 87, 69, 69, 75, 76, 89, 59, 73, 78, 84, 69, 82, 86, 65, 76, 61] ++ Lib.decDigits s.every.toNat ++ [59, 66, 89, 68, 65, 89, 61] ++ Tt.byL s.wd 7 ++ [59, 85, 78, 84, 73, 76, 61] ++ (Tt.d4 (Tt.yOf s.last).toNat ++ Tt.d2 (Tt.mOf s.last).toNat ++ Tt.d2 (Tt.dOf s.last).toNat) from rfl)
      have HY := Lib.hid (Tt.padD_four (n := (Tt.yOf s.last).toNat) (by omega) (by omega))
      have HM := Lib.hid (Tt.padD_two (n := (Tt.mOf s.last).toNat) (by omega))
      have HD := Lib.hid (Tt.padD_two (n := (Tt.dOf s.last).toNat) (by omega))
      have HE := Lib.hid (Lib.decDigits_one (i := s.every.toNat) (by omega))
      have hsw := HB.out.size; have HPr := Lib.hid (HP.out.below h6 HB.out)
      have HLr := Lib.hid (HL.out.below (by omega) HB.out)
      clear hlti; go_wp2_with fail
      refine (itoa136 s.every wr HPr.out (by omega) (by omega)).mono ?_
      rintro e w2 ⟨rfl, hb2⟩; rw [HE.out]
      obtain ⟨s0, hs0⟩ : ∃ s0, s0 = (⟨[UInt8.ofNat (48 + s.every.toNat)].toArray⟩ : ByteArray) := ⟨_, rfl⟩
      have z0 : s0.size = 1 := by rw [hs0]; rfl
      rw [← hs0]; have HS0 := Lib.hid hs0; have HB0 := Lib.hid hb2; clear hs0 hb2; go_wp2_with fail
      refine (HJ.out w2 HB0.out).mono ?_
      rintro e w3 ⟨rfl, hb3⟩; obtain ⟨sj, hsj⟩ : ∃ q, q = (⟨(Tt.byL s.wd 7).toArray⟩ : ByteArray) := ⟨_, rfl⟩
      have zj : sj.size ≤ 21 := by rw [hsj, size_mk]; exact HBL.out
      rw [← hsj]; have HSJ := Lib.hid hsj; have HBJ := Lib.hid (HB0.out.trans (hb3.mono HB0.out.size))
      have HSW := Lib.hid (show SerAt w.heap.size s (.slice ao ex c) (.slice ao' xt c') w3 from (HBJ.out.block w.heap.size (by omega)).trans HS.out)
      clear hsj hb3 HJ e0 e1 e2 e3 e4 e5; obtain ⟨e0, e1, e2, e3, e4, e5⟩ := HSW.out.cells
      have h6r : 6 < wr.heap.size := by omega
      go_wp2_with fail
      refine (parts308 s.last w3 (HLr.out.below (by omega) HBJ.out) hl0 hl1).mono ?_
      rintro e wz ⟨rfl, hw⟩; rw [hw]
      clear hw wz; generalize Tt.yOf s.last = y at *
      generalize Tt.mOf s.last = m at *
      generalize Tt.dOf s.last = d at *
      have HB0 := HBJ; go_wp2_with fail
      refine (digits309 y 4 w3 (HPr.out.below h6r HB0.out) (by omega) (by omega) (by omega)).mono ?_
      rintro e w4 ⟨rfl, hb1⟩; rw [HY.out]
      obtain ⟨s1, hs1⟩ : ∃ s, s = (⟨(Tt.d4 y.toNat).toArray⟩ : ByteArray) := ⟨_, rfl⟩
      have z1 : s1.size = 4 := by rw [hs1]; rfl
      rw [← hs1]; have HS1 := Lib.hid hs1; have HB1 := Lib.hid (HB0.out.trans (hb1.mono HB0.out.size))
      clear hs1 hb1; go_wp2_with fail
      refine (digits309 m 2 w4 (HPr.out.below h6r HB1.out) (by omega) (by omega) (by omega)).mono ?_
      rintro e w5 ⟨rfl, hb2⟩; rw [HM.out]
      obtain ⟨s2, hs2⟩ : ∃ s, s = (⟨(Tt.d2 m.toNat).toArray⟩ : ByteArray) := ⟨_, rfl⟩
      have z2 : s2.size = 2 := by rw [hs2]; rfl
      rw [← hs2]; have HS2 := Lib.hid hs2; have HB2 := Lib.hid (HB1.out.trans (hb2.mono HB1.out.size))
      clear hs2 hb2; go_wp2_with fail
      refine (digits309 d 2 w5 (HPr.out.below h6r HB2.out) (by omega) (by omega) (by omega)).mono ?_
      rintro e w6 ⟨rfl, hb3⟩; rw [HD.out]
      obtain ⟨s3, hs3⟩ : ∃ s, s = (⟨(Tt.d2 d.toNat).toArray⟩ : ByteArray) := ⟨_, rfl⟩
      have z3 : s3.size = 2 := by rw [hs3]; rfl
      rw [← hs3]; have HS3 := Lib.hid hs3; have HB3 := Lib.hid (HB2.out.trans (hb3.mono HB2.out.size))
      clear hs3 hb3; go_wp2_with fail
      go_ret2
      exact ⟨ret_code (mk_bytes (by simp only [bs_app, HS0.out, HSJ.out, HS1.out, HS2.out, HS3.out, HR.out, HE.out, List.append_assoc])), HB.out.trans (HB3.out.mono hsw)⟩
end Go.Proofs.YtageielcdebjlaaGreatDoor
