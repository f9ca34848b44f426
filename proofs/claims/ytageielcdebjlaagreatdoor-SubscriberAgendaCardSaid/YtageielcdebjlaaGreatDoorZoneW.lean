/- Zones in memory; zone.Valid and timetableref38.Valid: their contracts. -/
import Derived.Test.YtageielcdebjlaaGreatDoorPk7
import Derived.StillTailTactics
import Derived.Test.YtageielcdebjlaaGreatDoorPk14
namespace Go.Proofs.YtageielcdebjlaaGreatDoor
open Go.RowKit

set_option maxHeartbeats 400000 in
theorem near121 (n : Int) (w : World) : Calls Tryz.prog 121 #[.int .i64 n] w fun e w' => e = .returned (.bool (Tt.nearB n)) ∧ w' = w := by
  have HD := Lib.hid (show Tt.nearB n = (decide (-840 ≤ n) && decide (n ≤ 840)) from rfl)
  go_enter Tryz.func121, Tryz.ntmps121
  go_wp2_with fail
  all_goals
    go_ret; exact ⟨ret_bool (by rw [HD.out]; simp; omega), rfl⟩

set_option maxHeartbeats 400000 in
theorem inst122 (n : Int) (w : World) : Calls Tryz.prog 122 #[.int .i64 n] w fun e w' => e = .returned (.bool (Tt.instB n)) ∧ w' = w := by
  have HD := Lib.hid (show Tt.instB n = (decide (0 ≤ n) && decide (n < 52596000)) from rfl)
  go_enter Tryz.func122, Tryz.ntmps122
  go_wp2_with fail
  all_goals
    go_ret; exact ⟨ret_bool (by rw [HD.out]; simp; omega), rfl⟩

/-- A zone in block f. -/
def ZoneB (f : Nat) (n : ByteArray) (v : Int) (ev : Value) (w : World) : Prop := w.heap[f]? = some (.cells #[.string n, .int .i64 v, ev] 50 (0, 0))
theorem ZoneB.block {f : Nat} {n : ByteArray} {v : Int} {ev : Value} {w w' : World} (h : ZoneB f n v ev w) (hw : w'.heap[f]? = w.heap[f]?) : ZoneB f n v ev w' := hw.trans h
theorem ZoneB.lt {f : Nat} {n : ByteArray} {v : Int} {ev : Value} {w : World} (h : ZoneB f n v ev w) : f < w.heap.size := (Array.getElem?_eq_some_iff.1 h).1
theorem ZoneB.c {f : Nat} {n : ByteArray} {v : Int} {ev : Value} {w : World} (h : ZoneB f n v ev w) :
    w.cell? ⟨f, 0, none⟩ = some (.string n) ∧ w.cell? ⟨f, 1, none⟩ = some (.int .i64 v) ∧ w.cell? ⟨f, 2, none⟩ = some ev := by
  refine ⟨?_, ?_, ?_⟩ <;> (rw [Lib.cell_of_heap h]; rfl)

/-- The shifts of a slice, in blocks below B. -/
def Shs (B : Nat) (w : World) (ao : Option Addr) (sh : List (Int × Int)) : Prop := sh = [] ∨ ∃ b o, ao = some ⟨b, o, none⟩ ∧ b < B ∧ ∀ (j : Nat) (x : Int × Int), sh[j]? = some x → w.cell? ⟨b, o + j * 2, none⟩ = some (.int .i64 x.1) ∧ w.cell? ⟨b, o + j * 2 + 1, none⟩ = some (.int .i64 x.2)
theorem Shs.below {B : Nat} {w w' : World} {ao : Option Addr} {sh : List (Int × Int)} (h : Shs B w ao sh) (hw : Below B w w') : Shs B w' ao sh := by
  rcases h with h | ⟨b, o, ha, hb, hc⟩
  · exact .inl h
  · refine .inr ⟨b, o, ha, hb, fun j x hj => ?_⟩
    obtain ⟨h1, h2⟩ := hc j x hj
    exact ⟨(hw.cell (p := ⟨b, _, none⟩) hb).trans h1, (hw.cell (p := ⟨b, _, none⟩) hb).trans h2⟩
theorem Shs.mono {B B' : Nat} {w : World} {ao : Option Addr} {sh : List (Int × Int)} (h : Shs B w ao sh) (hB : B ≤ B') : Shs B' w ao sh := by
  rcases h with h | ⟨b, o, ha, hb, hc⟩
  · exact .inl h
  · exact .inr ⟨b, o, ha, by omega, hc⟩
theorem Shs.form {B : Nat} {w : World} {ao : Option Addr} {sh : List (Int × Int)} (h : Shs B w ao sh) (hne : 0 < sh.length) :
    ∃ b o, ao = some ⟨b, o, none⟩ ∧ b < B ∧ ∀ (j : Nat) (x : Int × Int), sh[j]? = some x → w.cell? ⟨b, o + j * 2, none⟩ = some (.int .i64 x.1) ∧ w.cell? ⟨b, o + j * 2 + 1, none⟩ = some (.int .i64 x.2) := by
  rcases h with h | h
  · rw [h] at hne; cases hne
  · exact h

set_option maxHeartbeats 8000000 in
set_option maxRecDepth 100000 in
theorem zone59 (n : ByteArray) (v : Int) (sh : List (Int × Int)) (ao : Option Addr) (c : Nat) (B : Nat) (w : World) (hB : B ≤ w.heap.size) (hE : Shs B w ao sh) (hn : sh.length ≤ 4611686018427387903) :
    Calls Tryz.prog 59 #[.agg #[.string n, .int .i64 v, .slice ao sh.length c]] w fun e w' => e = .returned (.int .i64 (Tt.zoneV (Tt.code n.data.toList) v sh)) ∧ Below w.heap.size w w' := by
  have HE := Lib.hid hE; clear hE; have HZ := Lib.hid (show Tt.zoneV (Tt.code n.data.toList) v sh = if Tt.code n.data.toList = false then 10 else if Tt.nearB v = false then 3 else if 64 < (sh.length : Int) then 2 else Tt.shV none v sh from rfl)
  cases hc : Tt.code n.data.toList
  · have HC := Lib.hid hc; rw [hc] at HZ
    clear hc; go_enter Tryz.func59, Tryz.ntmps59
    go_wp2_with (go_at_call 94; refine (code_any _ _).mono ?_; rintro e w' ⟨rfl, rfl⟩; rw [HC.out])
    go_ret; exact ⟨ret_int HZ.out.symm, below_box _ _⟩
  · have HC := Lib.hid hc; rw [hc] at HZ
    clear hc; cases hv : Tt.nearB v
    · have HV := Lib.hid hv; have HZ1 := Lib.hid (HZ.out.trans ((if_neg (by simp)).trans (if_pos hv)))
      clear hv; go_enter Tryz.func59, Tryz.ntmps59
      go_wp2_with (first | (go_at_call 94; refine (code_any _ _).mono ?_; rintro e w' ⟨rfl, rfl⟩; rw [HC.out]) | (go_at_call 121; refine (near121 _ _).mono ?_; rintro e w' ⟨rfl, rfl⟩; rw [HV.out]))
      go_ret; exact ⟨ret_int HZ1.out.symm, below_box _ _⟩
    · have hvb := (Tt.nearB_iff v).1 hv
      have HV := Lib.hid hv; have HZ1 := Lib.hid (HZ.out.trans ((if_neg (by simp)).trans (if_neg (by simp [hv]))))
      clear hv; have vn1 : ¬ v < -840 := by omega
      have vn2 : ¬ 840 < v := by omega
      by_cases h2 : 64 < (sh.length : Int)
      · have HZ2 := Lib.hid (HZ1.out.trans (if_pos h2))
        go_enter Tryz.func59, Tryz.ntmps59
        go_wp2_with (first | (go_at_call 94; refine (code_any _ _).mono ?_; rintro e w' ⟨rfl, rfl⟩; rw [HC.out]) | (go_at_call 121; refine (near121 _ _).mono ?_; rintro e w' ⟨rfl, rfl⟩; rw [HV.out]))
        go_ret; exact ⟨ret_int HZ2.out.symm, below_box _ _⟩
      · have HZ2 := Lib.hid (HZ1.out.trans (if_neg h2))
        have F0 : ZoneB w.heap.size n v (.slice ao sh.length c) (w.alloc (.cells #[.string n, .int .i64 v, .slice ao sh.length c] 50)) := heap_alloc_new w _
        have HF0 := Lib.hid F0; clear F0; go_enter Tryz.func59, Tryz.ntmps59
        go_wp2_with (first | (go_at_call 94; refine (code_any _ _).mono ?_; rintro e w' ⟨rfl, rfl⟩; rw [HC.out]) | (go_at_call 121; refine (near121 _ _).mono ?_; rintro e w' ⟨rfl, rfl⟩; rw [HV.out]))
        go_loopw [3, 26] (fun ov iv wr => ∃ k : Nat, ov = .int .i64 (Tt.offs v sh k) ∧ iv = .int .i64 k ∧ k ≤ sh.length ∧ -840 ≤ Tt.offs v sh k ∧ Tt.offs v sh k ≤ 840 ∧ Below w.heap.size w wr ∧ Hid (ZoneB w.heap.size n v (.slice ao sh.length c) wr) ∧ Hid (Tt.shV none v sh = Tt.shF v sh k) ∧ Hid (∀ j x, k = j + 1 → sh[j]? = some x → 0 ≤ x.1 ∧ x.1 < 52596000)) (fun _ iv _ => sh.length - (intOf iv).toNat)
        case atStart => exact ⟨0, rfl, rfl, Nat.zero_le _, hvb.1, hvb.2, below_box _ _, HF0.out, rfl, fun j x h => by omega⟩
        case round =>
          obtain ⟨k, rfl, rfl, hk, ho1, ho2, hbe, HF, HK, HP⟩ := hrel; obtain ⟨f0, f1, f2⟩ := HF.out.c
          have hsz := HF.out.lt; obtain ⟨of, hof⟩ : ∃ of, of = Tt.offs v sh k := ⟨_, rfl⟩
          rw [← hof] at ho1 ho2 ⊢
          have HOF := Lib.hid hof; clear hof; by_cases hlt : k < sh.length
          · obtain ⟨x, hx⟩ : ∃ x, sh[k]? = some x := ⟨_, List.getElem?_eq_getElem hlt⟩
            obtain ⟨b, o, ha, hb, hev⟩ := HE.out.form (by omega)
            subst ha; obtain ⟨a0, a1⟩ := hev k x hx
            have c0 := (hbe.cell (p := ⟨b, o + k * 2, none⟩) (by simp; omega)).trans a0
            have c1 := (hbe.cell (p := ⟨b, o + k * 2 + 1, none⟩) (by simp; omega)).trans a1
            clear a0 a1; have HEV := Lib.hid hev; have hki : (k : Int) < (sh.length : Int) := by omega
            have HSTEP := Lib.hid (HK.out.trans (Tt.shF_cons v sh k x hx))
            have HOS := Lib.hid (Tt.offs_succ v sh k x hx)
            rw [← HOF.out] at HSTEP
            have HX := Lib.hid hx; clear hev hx; obtain ⟨at1, of1⟩ := x; simp only at c0 c1 HSTEP HOS
            by_cases hb1 : (Tt.instB at1 && Tt.nearB of1) = false
            · have HR := Lib.hid (HZ2.out.trans (HSTEP.out.trans (if_pos hb1)))
              have HB1 := Lib.hid hb1; clear hb1; cases hi : Tt.instB at1
              · have HI := Lib.hid hi; clear hi
                go_wp2_with (go_at_call 122; refine (inst122 _ _).mono ?_; rintro e w' ⟨rfl, rfl⟩; rw [HI.out])
                go_ret; exact ⟨ret_int HR.out.symm, hbe.trans ((below_box wr _).mono hbe.size)⟩
              · have HI := Lib.hid hi; have HN := Lib.hid (show Tt.nearB of1 = false by rw [hi] at HB1; simpa using HB1.out)
                clear hi; go_wp2_with (first | (go_at_call 122; refine (inst122 _ _).mono ?_; rintro e w' ⟨rfl, rfl⟩; rw [HI.out]) | (go_at_call 121; refine (near121 _ _).mono ?_; rintro e w' ⟨rfl, rfl⟩; rw [HN.out]))
                go_ret; exact ⟨ret_int HR.out.symm, hbe.trans ((below_box wr _).mono hbe.size)⟩
            · have HST2 := Lib.hid (HSTEP.out.trans (if_neg hb1))
              simp only [Bool.not_eq_false, Bool.and_eq_true] at hb1
              have HI := Lib.hid hb1.1
              have HN := Lib.hid hb1.2
              obtain ⟨g1, g2⟩ := (Tt.instB_iff at1).1 hb1.1
              obtain ⟨g3, g4⟩ := (Tt.nearB_iff of1).1 hb1.2
              have n1 : ¬ at1 < 0 := by omega
              have n2 : ¬ 52596000 ≤ at1 := by omega
              have n3 : ¬ of1 < -840 := by omega
              have n4 : ¬ 840 < of1 := by omega
              clear hb1; go_wp2_with (first | (go_at_call 122; refine (inst122 _ _).mono ?_; rintro e w' ⟨rfl, rfl⟩; rw [HI.out]) | (go_at_call 121; refine (near121 _ _).mono ?_; rintro e w' ⟨rfl, rfl⟩; rw [HN.out]))
              cases k with
              | zero =>
                have HST3 := Lib.hid (HST2.out.trans (if_neg (by show ¬ (false = true); simp)))
                go_quiet (fail)
                obtain ⟨w2, hw2, hB2, hC2, hH2⟩ := redrew (wr.alloc (.cells #[.int .i64 at1, .int .i64 of1] 137)) nq
                have hb0 := below_box wr (.cells #[.int .i64 at1, .int .i64 of1] 137)
                have hbe2 := (below_then hbe hb0).trans (hB2 _)
                have s0 : w2.cell? ⟨wr.heap.size, 0, none⟩ = some (.int .i64 at1) := (hC2 _).trans (by rw [Lib.cell_of_heap (heap_alloc_new wr _)]; rfl)
                have s1 : w2.cell? ⟨wr.heap.size, 1, none⟩ = some (.int .i64 of1) := (hC2 _).trans (by rw [Lib.cell_of_heap (heap_alloc_new wr _)]; rfl)
                have HF2 := Lib.hid (HF.out.block ((hH2 _).trans (hb0.block _ hsz)))
                obtain ⟨f0, f1, f2⟩ := HF2.out.c
                rw [← hw2]; clear hw2 hB2 hC2 hH2 hb0 c0 c1; by_cases hj : of1 = of ∨ of + 180 < of1 ∨ of1 < of - 180
                · have HR := Lib.hid (HZ2.out.trans (HST3.out.trans (if_pos hj)))
                  by_cases j1 : of1 = of
                  · have t1 : (of1 == of) = true := beq_iff_eq.2 j1
                    clear hj j1; go_wp2_with fail
                    go_ret; exact ⟨ret_int HR.out.symm, hbe2⟩
                  · have t1 : (of1 == of) = false := beq_eq_false_iff_ne.2 j1
                    by_cases j2 : of + 180 < of1
                    · clear hj j1; go_wp2_with fail
                      go_ret; exact ⟨ret_int HR.out.symm, hbe2⟩
                    · have j3 : of1 < of - 180 := by omega
                      clear hj j1; go_wp2_with fail
                      go_ret; exact ⟨ret_int HR.out.symm, hbe2⟩
                · have HR := Lib.hid (show Tt.shV none v sh = Tt.shF v sh (0 + 1) from HST3.out.trans (if_neg hj))
                  have t1 : (of1 == of) = false := beq_eq_false_iff_ne.2 (by omega)
                  have j2 : ¬ of + 180 < of1 := by omega
                  have j3 : ¬ of1 < of - 180 := by omega
                  clear hj; go_wp2_with fail
                  go_roundw
                  case rel => exact ⟨0 + 1, by rw [HOS.out], by go_num, by omega, by rw [HOS.out]; omega, by rw [HOS.out]; omega, hbe2, HF2.out, HR.out, fun j' x' h' hx' => by
                    obtain rfl : 0 = j' := by omega
                    rw [HX.out] at hx'; cases hx'; exact ⟨g1, g2⟩⟩
                  case measure => simp [intOf]; omega
              | succ j =>
                obtain ⟨p, hp⟩ : ∃ p, sh[j]? = some p := ⟨_, List.getElem?_eq_getElem (by omega)⟩
                obtain ⟨p1, p2⟩ := HP.out j p rfl hp
                have q0 := (hbe.cell (p := ⟨b, o + j * 2, none⟩) (by simp; omega)).trans (HEV.out j p hp).1
                have HPA := Lib.hid (Tt.prevA_succ sh j p hp)
                have q0 := ((below_box wr (.cells #[.int .i64 at1, .int .i64 of1] 137)).cell (p := ⟨b, o + j * 2, none⟩) (by have := hbe.size; simp; omega)).trans q0
                clear hp; obtain ⟨pa, po⟩ := p; simp only at q0 p1 p2 HPA
                have hj2 : (j : Int) < (sh.length : Int) := by omega
                have hj3 : (0 : Int) ≤ (j : Int) + 1 - 1 := by omega
                have hj4 : (j : Int) + 1 - 1 < (sh.length : Int) := by omega
                have hj5 : ((j : Int) + 1 - 1).toNat = j := by omega
                have hj6 : (0 : Int) < (j : Int) + 1 := by omega
                have hj7 : IntKind.i64.wrap ((j : Int) + 1 - 1) = (j : Int) + 1 - 1 := by rw [IntKind.wrap_i64]; omega
                have hwp : IntKind.i64.wrap (pa + 2880) = pa + 2880 := by rw [IntKind.wrap_i64]; omega
                by_cases hl : at1 < pa + 2880
                · have HR := Lib.hid (HZ2.out.trans (HST2.out.trans (if_pos (by rw [HPA.out]; show decide _ = true; simpa using hl))))
                  go_quiet (fail)
                  clear hwp; go_wp2_with fail
                  go_ret; exact ⟨ret_int HR.out.symm, below_drew (hbe.trans ((below_box wr _).mono hbe.size))⟩
                · have HST3 := Lib.hid (HST2.out.trans (if_neg (by rw [HPA.out]; show ¬ (decide _ = true); simpa using hl)))
                  go_quiet (fail)
                  obtain ⟨w2, hw2, hB2, hC2, hH2⟩ := redrew (wr.alloc (.cells #[.int .i64 at1, .int .i64 of1] 137)) nq
                  have hb0 := below_box wr (.cells #[.int .i64 at1, .int .i64 of1] 137)
                  have hbe2 := (below_then hbe hb0).trans (hB2 _)
                  have s0 : w2.cell? ⟨wr.heap.size, 0, none⟩ = some (.int .i64 at1) := (hC2 _).trans (by rw [Lib.cell_of_heap (heap_alloc_new wr _)]; rfl)
                  have s1 : w2.cell? ⟨wr.heap.size, 1, none⟩ = some (.int .i64 of1) := (hC2 _).trans (by rw [Lib.cell_of_heap (heap_alloc_new wr _)]; rfl)
                  have HF2 := Lib.hid (HF.out.block ((hH2 _).trans (hb0.block _ hsz)))
                  obtain ⟨f0, f1, f2⟩ := HF2.out.c
                  rw [← hw2]; clear hw2 hB2 hC2 hH2 hb0 c0 c1 q0 hwp; by_cases hj : of1 = of ∨ of + 180 < of1 ∨ of1 < of - 180
                  · have HR := Lib.hid (HZ2.out.trans (HST3.out.trans (if_pos hj)))
                    by_cases j1 : of1 = of
                    · have t1 : (of1 == of) = true := beq_iff_eq.2 j1
                      clear hj j1; go_wp2_with fail
                      go_ret; exact ⟨ret_int HR.out.symm, hbe2⟩
                    · have t1 : (of1 == of) = false := beq_eq_false_iff_ne.2 j1
                      by_cases j2 : of + 180 < of1
                      · clear hj j1; go_wp2_with fail
                        go_ret; exact ⟨ret_int HR.out.symm, hbe2⟩
                      · have j3 : of1 < of - 180 := by omega
                        clear hj j1; go_wp2_with fail
                        go_ret; exact ⟨ret_int HR.out.symm, hbe2⟩
                  · have HR := Lib.hid (show Tt.shV none v sh = Tt.shF v sh ((j + 1) + 1) from HST3.out.trans (if_neg hj))
                    have t1 : (of1 == of) = false := beq_eq_false_iff_ne.2 (by omega)
                    have j2 : ¬ of + 180 < of1 := by omega
                    have j3 : ¬ of1 < of - 180 := by omega
                    clear hj; go_wp2_with fail
                    go_roundw
                    case rel => exact ⟨(j + 1) + 1, by rw [HOS.out], by go_num, by omega, by rw [HOS.out]; omega, by rw [HOS.out]; omega, hbe2, HF2.out, HR.out, fun j' x' h' hx' => by
                      obtain rfl : (j + 1) = j' := by omega
                      rw [HX.out] at hx'; cases hx'; exact ⟨g1, g2⟩⟩
                    case measure => simp [intOf]; omega
          · have hki : ¬ (k : Int) < (sh.length : Int) := by omega
            have HR := Lib.hid (HZ2.out.trans (HK.out.trans (Tt.shF_end v sh k (by omega))))
            go_wp2_with fail
            go_ret; exact ⟨ret_int HR.out.symm, hbe⟩

end Go.Proofs.YtageielcdebjlaaGreatDoor
