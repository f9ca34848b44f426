/- timetableref40.Valid: its contract. -/
import Derived.Test.YtageielcdebjlaaGreatDoorFeedV
import Derived.StillTailTactics
namespace Go.Proofs.YtageielcdebjlaaGreatDoor
open Go.RowKit

set_option maxHeartbeats 8000000 in
set_option maxRecDepth 100000 in
theorem valid47 (n : ByteArray) (v : Int) (es : List Ev) (ao : Option Addr) (c : Nat) (B : Nat) (w : World) (hB : B ≤ w.heap.size) (hE : Evs B w ao es) (hn : es.length ≤ 4611686018427387903) :
    Calls Tryz.prog 47 #[.agg #[.string n, .int .i64 v, .slice ao es.length c]] w fun e w' => e = .returned (.int .i64 (feedV n v es)) ∧ Below w.heap.size w w' := by
  have HE := Lib.hid hE
  clear hE
  by_cases hc : Tt.code n.data.toList = false
  · have HR := Lib.hid (show feedV n v es = 10 by unfold feedV; rw [if_pos hc])
    have HC := Lib.hid hc
    clear hc
    go_enter Tryz.func47, Tryz.ntmps47
    go_wp2_with (go_at_call 97; refine (code97 _ _).mono ?_; rintro e w' ⟨rfl, rfl⟩; rw [HC.out])
    go_ret
    exact ⟨ret_int HR.out.symm, below_box _ _⟩
  · by_cases h1 : v < 0 ∨ 64 < v
    · have HR := Lib.hid (show feedV n v es = 3 by unfold feedV; rw [if_neg hc, if_pos h1])
      have HC := Lib.hid (show Tt.code n.data.toList = true by simpa using hc)
      clear hc
      rcases h1 with h1 | h1
      · go_enter Tryz.func47, Tryz.ntmps47
        go_wp2_with (go_at_call 97; refine (code97 _ _).mono ?_; rintro e w' ⟨rfl, rfl⟩; rw [HC.out])
        go_ret
        exact ⟨ret_int HR.out.symm, below_box _ _⟩
      · have v1 : ¬ v < 0 := by omega
        go_enter Tryz.func47, Tryz.ntmps47
        go_wp2_with (go_at_call 97; refine (code97 _ _).mono ?_; rintro e w' ⟨rfl, rfl⟩; rw [HC.out])
        go_ret
        exact ⟨ret_int HR.out.symm, below_box _ _⟩
    · by_cases h2 : 256 < (es.length : Int)
      · have HR := Lib.hid (show feedV n v es = 2 by unfold feedV; rw [if_neg hc, if_neg h1, if_pos h2])
        have HC := Lib.hid (show Tt.code n.data.toList = true by simpa using hc)
        have v1 : ¬ v < 0 := by omega
        have v2 : ¬ 64 < v := by omega
        clear hc h1
        go_enter Tryz.func47, Tryz.ntmps47
        go_wp2_with (go_at_call 97; refine (code97 _ _).mono ?_; rintro e w' ⟨rfl, rfl⟩; rw [HC.out])
        go_ret
        exact ⟨ret_int HR.out.symm, below_box _ _⟩
      · have v1 : ¬ v < 0 := by omega
        have v2 : ¬ 64 < v := by omega
        have HC := Lib.hid (show Tt.code n.data.toList = true by simpa using hc)
        have HV := Lib.hid (show feedV n v es = evsF v es 0 by unfold feedV; rw [if_neg hc, if_neg h1, if_neg h2]; rfl)
        have F0 : FeedB w.heap.size n v (.slice ao es.length c) (w.alloc (.cells #[.string n, .int .i64 v, .slice ao es.length c] 26)) := heap_alloc_new w _
        have HF0 := Lib.hid F0
        clear hc h1 F0
        go_enter Tryz.func47, Tryz.ntmps47
        go_wp2_with (go_at_call 97; refine (code97 _ _).mono ?_; rintro e w' ⟨rfl, rfl⟩; rw [HC.out])
        go_loopw [3] (fun iv wr => ∃ k : Nat, iv = .int .i64 k ∧ k ≤ es.length ∧ Below w.heap.size w wr ∧ Hid (FeedB w.heap.size n v (.slice ao es.length c) wr) ∧ Hid (evsF v es 0 = evsF v es k)) (fun iv _ => es.length - (intOf iv).toNat)
        case atStart => exact ⟨0, rfl, Nat.zero_le _, below_box _ _, HF0.out, rfl⟩
        case round =>
          obtain ⟨k, rfl, hk, hbe, HF, HK⟩ := hrel
          have f0 := HF.out.c0
          have f1 := HF.out.c1
          have f2 := HF.out.c2
          have hsz := HF.out.lt
          by_cases hlt : k < es.length
          · obtain ⟨e, he⟩ : ∃ e, es[k]? = some e := ⟨_, List.getElem?_eq_getElem hlt⟩
            obtain ⟨b, o, ha, hb, hev⟩ := HE.out.form (by omega)
            subst ha
            obtain ⟨hE1, x, x', hC, hX, hX'⟩ := hev k e he
            have HCW := hC.below (w' := wr) hb (hbe.mono hB)
            obtain ⟨c0, c1, c2, c3, c4, c5, c6, c7, c8, c9, c10, c11, c12⟩ := HCW
            obtain ⟨ax, cx, hx, hI⟩ := hX
            obtain ⟨ay, cy, hy, hI'⟩ := hX'
            subst hx hy
            have HEV := Lib.hid hev
            have hki : (k : Int) < (es.length : Int) := by omega
            clear hev
            have HC0 := Lib.hid hC
            have HSTEP := Lib.hid (evsF_cons v es k e he)
            clear he
            go_wp2_with fail
            refine (right98 e.uid wr hE1.uid).mono ?_
            rintro z w1 ⟨rfl, hb1⟩
            have hbe1 := below_then hbe hb1
            have HF1 := Lib.hid (HF.out.block (hb1.block _ hsz))
            have hsz1 := HF1.out.lt
            clear hb1 HF c0 c1 c2 c3 c4 c5 c6 c7 c8 c9 c10 c11 c12 f0 f1 f2
            have HC1 := HC0.out.below (w' := w1) hb (hbe1.mono hB)
            obtain ⟨c0, c1, c2, c3, c4, c5, c6, c7, c8, c9, c10, c11, c12⟩ := HC1
            have f0 := HF1.out.c0
            have f1 := HF1.out.c1
            have f2 := HF1.out.c2
            cases hr : rightB e.uid.data.toList
            · have HR := Lib.hid (show feedV n v es = 4 from HV.out.trans (HK.out.trans (HSTEP.out.trans (if_pos hr))))
              clear hr
              go_wp2_with fail
              go_ret
              exact ⟨ret_int HR.out.symm, hbe1⟩
            · have HST2 := Lib.hid (HSTEP.out.trans (if_neg (by rw [hr]; simp)))
              clear hr
              cases k with
              | zero =>
                go_wp2_with fail
                go_quiet (fail)
                obtain ⟨w2, hw2, hB2, hC2, hH2⟩ := redrew w1 nq
                have hbe2 := hbe1.trans (hB2 _)
                have HC2 := Lib.hid (HC0.out.below (w' := w2) hb (hbe2.mono hB))
                rw [Nat.zero_mul, Nat.add_zero] at HC2
                have HF2 := Lib.hid (HF1.out.block (hH2 _))
                have hsz2 := HF2.out.lt
                rw [← hw2]
                clear hw2 hB2 hC2 hH2 c0 c1 c2 c3 c4 c5 c6 c7 c8 c9 c10 c11 c12 f0 f1 f2 HF1 hbe1 hsz1
                obtain ⟨c0, c1, c2, c3, c4, c5, c6, c7, c8, c9, c10, c11, c12⟩ := HC2.out
                have f0 := HF2.out.c0
                have f1 := HF2.out.c1
                have f2 := HF2.out.c2
                have HST3 := Lib.hid (HST2.out.trans (if_neg (by show ¬ (false = true); simp)))
                go_wp2_with fail
                go_still_tail 7, (by kernel_rfl)
                change wpList _ _ _ _ _ w2.drew
                go_wp2_with fail
                refine (fault99 e v B _ ax ay cx cy (Nat.le_trans hB (below_drw hbe2).size) (hI.below ((below_drw hbe2).mono hB)) (hI'.below ((below_drw hbe2).mono hB)) hE1.ex hE1.xt hE1.summ hE1.loc).mono ?_
                rintro z w3 ⟨rfl, hb3⟩
                have hbe3 := below_then (below_drw hbe2) hb3
                have HF3 := Lib.hid (HF2.out.block (hb3.block _ hsz2))
                by_cases hcv : checkV e v = 0
                · have HR := Lib.hid (show evsF v es 0 = evsF v es (0 + 1) from HST3.out.trans (if_neg (by simp [hcv])))
                  rw [hcv]
                  clear hcv
                  go_wp2_with fail
                  go_roundw
                  case rel => exact ⟨0 + 1, by go_num, by omega, hbe3, HF3.out, HR.out⟩
                  case measure => simp [intOf]; omega
                · have HR := Lib.hid (show feedV n v es = checkV e v from HV.out.trans (HST3.out.trans (if_pos hcv)))
                  have hcv2 : (checkV e v != 0) = true := by simp [hcv]
                  clear hcv
                  go_wp2_with fail
                  go_ret
                  exact ⟨ret_int HR.out.symm, hbe3⟩
              | succ j =>
                obtain ⟨p, hp⟩ : ∃ p, es[j]? = some p := ⟨_, List.getElem?_eq_getElem (by omega)⟩
                obtain ⟨_, y, y', hCp, _, _⟩ := HEV.out j p hp
                have p0 := (hCp.below (w' := w1) hb (hbe1.mono hB)).c0
                clear hCp
                go_wp2_with fail
                go_quiet (fail)
                obtain ⟨w2, hw2, hB2, hC2, hH2⟩ := redrew w1 nq
                have hbe2 := hbe1.trans (hB2 _)
                have HC2 := Lib.hid (HC0.out.below (w' := w2) hb (hbe2.mono hB))
                have HF2 := Lib.hid (HF1.out.block (hH2 _))
                have hsz2 := HF2.out.lt
                rw [← hw2]
                clear hw2 hB2 hC2 hH2 c0 c1 c2 c3 c4 c5 c6 c7 c8 c9 c10 c11 c12 f0 f1 f2 HF1 hbe1 hsz1 p0
                obtain ⟨c0, c1, c2, c3, c4, c5, c6, c7, c8, c9, c10, c11, c12⟩ := HC2.out
                have f0 := HF2.out.c0
                have f1 := HF2.out.c1
                have f2 := HF2.out.c2
                have hprev := Lib.hid (prevU_succ es j p hp)
                cases hlt2 : (Op.bytesLess e.uid.toList p.uid.toList || e.uid.toList == p.uid.toList)
                case true =>
                  have HR := Lib.hid (show feedV n v es = 63 from HV.out.trans (HK.out.trans (HST2.out.trans (if_pos (by rw [hprev.out]; exact hlt2)))))
                  clear hlt2 hp
                  go_wp2_with fail
                  go_ret
                  exact ⟨ret_int HR.out.symm, hbe2⟩
                have HST3 := Lib.hid (HST2.out.trans (if_neg (by rw [hprev.out]; show ¬ (_ = true); rw [show lateU (some p.uid) e.uid = false from hlt2]; simp)))
                clear hlt2 hp
                go_wp2_with fail
                have hj0 : (0 : Int) ≤ (j : Int) + 1 := by omega
                have hjn : ((j : Int) + 1).toNat = j + 1 := by omega
                have hjl : (j : Int) + 1 < (es.length : Int) := by omega
                go_still_tail 7, (by kernel_rfl)
                clear hj0 hjn hjl
                change wpList _ _ _ _ _ w2.drew
                go_wp2_with fail
                refine (fault99 e v B _ ax ay cx cy (Nat.le_trans hB (below_drw hbe2).size) (hI.below ((below_drw hbe2).mono hB)) (hI'.below ((below_drw hbe2).mono hB)) hE1.ex hE1.xt hE1.summ hE1.loc).mono ?_
                rintro z w3 ⟨rfl, hb3⟩
                have hbe3 := below_then (below_drw hbe2) hb3
                have HF3 := Lib.hid (HF2.out.block (hb3.block _ hsz2))
                by_cases hcv : checkV e v = 0
                · have HR := Lib.hid (show evsF v es 0 = evsF v es ((j + 1) + 1) from HK.out.trans (HST3.out.trans (if_neg (by simp [hcv]))))
                  rw [hcv]
                  clear hcv
                  go_wp2_with fail
                  go_roundw
                  case rel => exact ⟨(j + 1) + 1, by go_num, by omega, hbe3, HF3.out, HR.out⟩
                  case measure => simp [intOf]; omega
                · have HR := Lib.hid (show feedV n v es = checkV e v from HV.out.trans (HK.out.trans (HST3.out.trans (if_pos hcv))))
                  have hcv2 : (checkV e v != 0) = true := by simp [hcv]
                  clear hcv
                  go_wp2_with fail
                  go_ret
                  exact ⟨ret_int HR.out.symm, hbe3⟩
          · have hki : ¬ (k : Int) < (es.length : Int) := by omega
            have HR := Lib.hid (show feedV n v es = 0 from HV.out.trans (HK.out.trans (evsF_end v es k (by omega))))
            go_wp2_with fail
            go_ret
            exact ⟨ret_int HR.out.symm, hbe⟩
end Go.Proofs.YtageielcdebjlaaGreatDoor
