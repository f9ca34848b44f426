/- timetableref40.Valid: its contract. subscriber.Valid, timetableref41.Valid and the law's short: their contracts. Stretches of events in memory: their cells and what they refer to. No function of the program in sight. Condition: none. An append of a stretch of events to a row of one's own. No function of the program in sight. Condition: none. -/
import Derived.Test.YtageielcdebjlaaGreatDoorFeedV
import Derived.StillTailTactics
import Derived.Test.YtageielcdebjlaaGreatDoorPk12
import Derived.Test.YtageielcdebjlaaGreatDoorPk11
namespace Go.Proofs.YtageielcdebjlaaGreatDoor
open Go.RowKit

set_option maxHeartbeats 8000000 in
set_option maxRecDepth 100000 in
theorem valid47 (n : ByteArray) (v : Int) (es : List Ev) (ao : Option Addr) (c : Nat) (B : Nat) (w : World) (hB : B ≤ w.heap.size) (hE : Evs B w ao es) (hn : es.length ≤ 4611686018427387903) :
    Calls Tryz.prog 47 #[.agg #[.string n, .int .i64 v, .slice ao es.length c]] w fun e w' => e = .returned (.int .i64 (feedV n v es)) ∧ Below w.heap.size w w' := by
  have HE := Lib.hid hE
  clear hE
  by_cases hc : Tt.code n.data.toList = false
  · have HR := Lib.hid (show feedV n v es = 10 by unfold feedV; rw [if_pos hc])
    have HC := Lib.hid hc
    clear hc
    go_enter Tryz.func47, Tryz.ntmps47
    go_wp2_with (go_at_call 97; refine (code97 _ _).mono ?_; rintro e w' ⟨rfl, rfl⟩; rw [HC.out])
    go_ret
    exact ⟨ret_int HR.out.symm, below_box _ _⟩
  · by_cases h1 : v < 0 ∨ 64 < v
    · have HR := Lib.hid (show feedV n v es = 3 by unfold feedV; rw [if_neg hc, if_pos h1])
      have HC := Lib.hid (show Tt.code n.data.toList = true by simpa using hc)
      clear hc
      rcases h1 with h1 | h1
      · go_enter Tryz.func47, Tryz.ntmps47
        go_wp2_with (go_at_call 97; refine (code97 _ _).mono ?_; rintro e w' ⟨rfl, rfl⟩; rw [HC.out])
        go_ret
        exact ⟨ret_int HR.out.symm, below_box _ _⟩
      · have v1 : ¬ v < 0 := by omega
        go_enter Tryz.func47, Tryz.ntmps47
        go_wp2_with (go_at_call 97; refine (code97 _ _).mono ?_; rintro e w' ⟨rfl, rfl⟩; rw [HC.out])
        go_ret
        exact ⟨ret_int HR.out.symm, below_box _ _⟩
    · by_cases h2 : 256 < (es.length : Int)
      · have HR := Lib.hid (show feedV n v es = 2 by unfold feedV; rw [if_neg hc, if_neg h1, if_pos h2])
        have HC := Lib.hid (show Tt.code n.data.toList = true by simpa using hc)
        have v1 : ¬ v < 0 := by omega
        have v2 : ¬ 64 < v := by omega
        clear hc h1
        go_enter Tryz.func47, Tryz.ntmps47
        go_wp2_with (go_at_call 97; refine (code97 _ _).mono ?_; rintro e w' ⟨rfl, rfl⟩; rw [HC.out])
        go_ret
        exact ⟨ret_int HR.out.symm, below_box _ _⟩
      · have v1 : ¬ v < 0 := by omega
        have v2 : ¬ 64 < v := by omega
        have HC := Lib.hid (show Tt.code n.data.toList = true by simpa using hc)
        have HV := Lib.hid (show feedV n v es = evsF v es 0 by unfold feedV; rw [if_neg hc, if_neg h1, if_neg h2]; rfl)
        have F0 : FeedB w.heap.size n v (.slice ao es.length c) (w.alloc (.cells #[.string n, .int .i64 v, .slice ao es.length c] 26)) := heap_alloc_new w _
        have HF0 := Lib.hid F0
        clear hc h1 F0
        go_enter Tryz.func47, Tryz.ntmps47
        go_wp2_with (go_at_call 97; refine (code97 _ _).mono ?_; rintro e w' ⟨rfl, rfl⟩; rw [HC.out])
        go_loopw [3] (fun iv wr => ∃ k : Nat, iv = .int .i64 k ∧ k ≤ es.length ∧ Below w.heap.size w wr ∧ Hid (FeedB w.heap.size n v (.slice ao es.length c) wr) ∧ Hid (evsF v es 0 = evsF v es k)) (fun iv _ => es.length - (intOf iv).toNat)
        case atStart => exact ⟨0, rfl, Nat.zero_le _, below_box _ _, HF0.out, rfl⟩
        case round =>
          obtain ⟨k, rfl, hk, hbe, HF, HK⟩ := hrel
          have f0 := HF.out.c0
          have f1 := HF.out.c1
          have f2 := HF.out.c2
          have hsz := HF.out.lt
          by_cases hlt : k < es.length
          · obtain ⟨e, he⟩ : ∃ e, es[k]? = some e := ⟨_, List.getElem?_eq_getElem hlt⟩
            obtain ⟨b, o, ha, hb, hev⟩ := HE.out.form (by omega)
            subst ha
            obtain ⟨hE1, x, x', hC, hX, hX'⟩ := hev k e he
            have HCW := hC.below (w' := wr) hb (hbe.mono hB)
            obtain ⟨c0, c1, c2, c3, c4, c5, c6, c7, c8, c9, c10, c11, c12⟩ := HCW
            obtain ⟨ax, cx, hx, hI⟩ := hX
            obtain ⟨ay, cy, hy, hI'⟩ := hX'
            subst hx hy
            have HEV := Lib.hid hev
            have hki : (k : Int) < (es.length : Int) := by omega
            clear hev
            have HC0 := Lib.hid hC
            have HSTEP := Lib.hid (evsF_cons v es k e he)
            clear he
            go_wp2_with fail
            refine (right98 e.uid wr hE1.uid).mono ?_
            rintro z w1 ⟨rfl, hb1⟩
            have hbe1 := below_then hbe hb1
            have HF1 := Lib.hid (HF.out.block (hb1.block _ hsz))
            have hsz1 := HF1.out.lt
            clear hb1 HF c0 c1 c2 c3 c4 c5 c6 c7 c8 c9 c10 c11 c12 f0 f1 f2
            have HC1 := HC0.out.below (w' := w1) hb (hbe1.mono hB)
            obtain ⟨c0, c1, c2, c3, c4, c5, c6, c7, c8, c9, c10, c11, c12⟩ := HC1
            have f0 := HF1.out.c0
            have f1 := HF1.out.c1
            have f2 := HF1.out.c2
            cases hr : rightB e.uid.data.toList
            · have HR := Lib.hid (show feedV n v es = 4 from HV.out.trans (HK.out.trans (HSTEP.out.trans (if_pos hr))))
              clear hr
              go_wp2_with fail
              go_ret
              exact ⟨ret_int HR.out.symm, hbe1⟩
            · have HST2 := Lib.hid (HSTEP.out.trans (if_neg (by rw [hr]; simp)))
              clear hr
              cases k with
              | zero =>
                go_wp2_with fail
                go_quiet (fail)
                obtain ⟨w2, hw2, hB2, hC2, hH2⟩ := redrew w1 nq
                have hbe2 := hbe1.trans (hB2 _)
                have HC2 := Lib.hid (HC0.out.below (w' := w2) hb (hbe2.mono hB))
                rw [Nat.zero_mul, Nat.add_zero] at HC2
                have HF2 := Lib.hid (HF1.out.block (hH2 _))
                have hsz2 := HF2.out.lt
                rw [← hw2]
                clear hw2 hB2 hC2 hH2 c0 c1 c2 c3 c4 c5 c6 c7 c8 c9 c10 c11 c12 f0 f1 f2 HF1 hbe1 hsz1
                obtain ⟨c0, c1, c2, c3, c4, c5, c6, c7, c8, c9, c10, c11, c12⟩ := HC2.out
                have f0 := HF2.out.c0
                have f1 := HF2.out.c1
                have f2 := HF2.out.c2
                have HST3 := Lib.hid (HST2.out.trans (if_neg (by show ¬ (false = true); simp)))
                go_wp2_with fail
                go_still_tail 7, (by kernel_rfl)
                change wpList _ _ _ _ _ w2.drew
                go_wp2_with fail
                refine (fault99 e v B _ ax ay cx cy (Nat.le_trans hB (below_drw hbe2).size) (hI.below ((below_drw hbe2).mono hB)) (hI'.below ((below_drw hbe2).mono hB)) hE1.ex hE1.xt hE1.summ hE1.loc).mono ?_
                rintro z w3 ⟨rfl, hb3⟩
                have hbe3 := below_then (below_drw hbe2) hb3
                have HF3 := Lib.hid (HF2.out.block (hb3.block _ hsz2))
                by_cases hcv : checkV e v = 0
                · have HR := Lib.hid (show evsF v es 0 = evsF v es (0 + 1) from HST3.out.trans (if_neg (by simp [hcv])))
                  rw [hcv]
                  clear hcv
                  go_wp2_with fail
                  go_roundw
                  case rel => exact ⟨0 + 1, by go_num, by omega, hbe3, HF3.out, HR.out⟩
                  case measure => simp [intOf]; omega
                · have HR := Lib.hid (show feedV n v es = checkV e v from HV.out.trans (HST3.out.trans (if_pos hcv)))
                  have hcv2 : (checkV e v != 0) = true := by simp [hcv]
                  clear hcv
                  go_wp2_with fail
                  go_ret
                  exact ⟨ret_int HR.out.symm, hbe3⟩
              | succ j =>
                obtain ⟨p, hp⟩ : ∃ p, es[j]? = some p := ⟨_, List.getElem?_eq_getElem (by omega)⟩
                obtain ⟨_, y, y', hCp, _, _⟩ := HEV.out j p hp
                have p0 := (hCp.below (w' := w1) hb (hbe1.mono hB)).c0
                clear hCp
                go_wp2_with fail
                go_quiet (fail)
                obtain ⟨w2, hw2, hB2, hC2, hH2⟩ := redrew w1 nq
                have hbe2 := hbe1.trans (hB2 _)
                have HC2 := Lib.hid (HC0.out.below (w' := w2) hb (hbe2.mono hB))
                have HF2 := Lib.hid (HF1.out.block (hH2 _))
                have hsz2 := HF2.out.lt
                rw [← hw2]
                clear hw2 hB2 hC2 hH2 c0 c1 c2 c3 c4 c5 c6 c7 c8 c9 c10 c11 c12 f0 f1 f2 HF1 hbe1 hsz1 p0
                obtain ⟨c0, c1, c2, c3, c4, c5, c6, c7, c8, c9, c10, c11, c12⟩ := HC2.out
                have f0 := HF2.out.c0
                have f1 := HF2.out.c1
                have f2 := HF2.out.c2
                have hprev := Lib.hid (prevU_succ es j p hp)
                cases hlt2 : (Op.bytesLess e.uid.toList p.uid.toList || e.uid.toList == p.uid.toList)
                case true =>
                  have HR := Lib.hid (show feedV n v es = 63 from HV.out.trans (HK.out.trans (HST2.out.trans (if_pos (by rw [hprev.out]; exact hlt2)))))
                  clear hlt2 hp
                  go_wp2_with fail
                  go_ret
                  exact ⟨ret_int HR.out.symm, hbe2⟩
                have HST3 := Lib.hid (HST2.out.trans (if_neg (by rw [hprev.out]; show ¬ (_ = true); rw [show lateU (some p.uid) e.uid = false from hlt2]; simp)))
                clear hlt2 hp
                go_wp2_with fail
                have hj0 : (0 : Int) ≤ (j : Int) + 1 := by omega
                have hjn : ((j : Int) + 1).toNat = j + 1 := by omega
                have hjl : (j : Int) + 1 < (es.length : Int) := by omega
                go_still_tail 7, (by kernel_rfl)
                clear hj0 hjn hjl
                change wpList _ _ _ _ _ w2.drew
                go_wp2_with fail
                refine (fault99 e v B _ ax ay cx cy (Nat.le_trans hB (below_drw hbe2).size) (hI.below ((below_drw hbe2).mono hB)) (hI'.below ((below_drw hbe2).mono hB)) hE1.ex hE1.xt hE1.summ hE1.loc).mono ?_
                rintro z w3 ⟨rfl, hb3⟩
                have hbe3 := below_then (below_drw hbe2) hb3
                have HF3 := Lib.hid (HF2.out.block (hb3.block _ hsz2))
                by_cases hcv : checkV e v = 0
                · have HR := Lib.hid (show evsF v es 0 = evsF v es ((j + 1) + 1) from HK.out.trans (HST3.out.trans (if_neg (by simp [hcv]))))
                  rw [hcv]
                  clear hcv
                  go_wp2_with fail
                  go_roundw
                  case rel => exact ⟨(j + 1) + 1, by go_num, by omega, hbe3, HF3.out, HR.out⟩
                  case measure => simp [intOf]; omega
                · have HR := Lib.hid (show feedV n v es = checkV e v from HV.out.trans (HK.out.trans (HST3.out.trans (if_pos hcv))))
                  have hcv2 : (checkV e v != 0) = true := by simp [hcv]
                  clear hcv
                  go_wp2_with fail
                  go_ret
                  exact ⟨ret_int HR.out.symm, hbe3⟩
          · have hki : ¬ (k : Int) < (es.length : Int) := by omega
            have HR := Lib.hid (show feedV n v es = 0 from HV.out.trans (HK.out.trans (evsF_end v es k (by omega))))
            go_wp2_with fail
            go_ret
            exact ⟨ret_int HR.out.symm, hbe⟩
end Go.Proofs.YtageielcdebjlaaGreatDoor
namespace Go.Proofs.YtageielcdebjlaaGreatDoor
open Go.RowKit

/-- Is what a reader holds valid? -/
def rdOk (v : Int) (es : List Ev) : Bool := !decide (v < 0 ∨ 64 < v) && !decide (256 < (es.length : Int)) && decide (evsV v none es = 0)
theorem feed_rd (n : ByteArray) (v : Int) (es : List Ev) (hc : Tt.code n.data.toList = true) : decide (feedV n v es = 0) = rdOk v es := by
  unfold feedV rdOk
  rw [if_neg (by rw [hc]; simp)]
  by_cases h1 : v < 0 ∨ 64 < v
  · rw [if_pos h1]; simp [h1]
  · rw [if_neg h1]
    by_cases h2 : 256 < (es.length : Int)
    · rw [if_pos h2]; simp [h2]
    · rw [if_neg h2]; simp [h1, h2]

set_option maxHeartbeats 4000000 in
set_option maxRecDepth 100000 in
theorem valid24 (v s : Int) (es : List Ev) (ao : Option Addr) (c : Nat) (B : Nat) (w : World) (hB : B ≤ w.heap.size) (hE : Evs B w ao es) (hn : es.length ≤ 4611686018427387903) :
    Calls Tryz.prog 24 #[.agg #[.int .i64 v, .int .i64 s, .slice ao es.length c]] w fun e w' => e = .returned (.bool (rdOk v es)) ∧ Below w.heap.size w w' := by
  have hbx := below_box w (.cells #[.int .i64 v, .int .i64 s, .slice ao es.length c] 24)
  have HB := Lib.hid hbx
  have HE := Lib.hid (hE.below (hbx.mono hB))
  clear hE hbx
  go_enter Tryz.func24, Tryz.ntmps24
  go_wp2_with fail
  refine (valid46 ⟨#[114, 101, 97, 100, 101, 114]⟩ v es ao c B _ (by simp; omega) HE.out hn).mono ?_
  rintro e w1 ⟨rfl, hb1⟩
  have HB1 := Lib.hid (HB.out.trans (hb1.mono (by simp; try omega)))
  clear hb1
  have HR := Lib.hid (feed_rd ⟨#[114, 101, 97, 100, 101, 114]⟩ v es (by decide))
  by_cases h : feedV ⟨#[114, 101, 97, 100, 101, 114]⟩ v es = 0
  · have HR2 := Lib.hid (show rdOk v es = true from by rw [← HR.out]; simpa using h)
    rw [h]
    clear h
    go_wp2_with fail
    go_ret
    exact ⟨ret_bool HR2.out.symm, HB1.out⟩
  · have HR2 := Lib.hid (show rdOk v es = false from by rw [← HR.out]; simpa using h)
    have hb : (feedV ⟨#[114, 101, 97, 100, 101, 114]⟩ v es == 0) = false := by simpa using h
    clear h
    go_wp2_with fail
    go_ret
    exact ⟨ret_bool (by rw [HR2.out]), HB1.out⟩

set_option maxHeartbeats 4000000 in
set_option maxRecDepth 100000 in
theorem valid25 (v s : Int) (es : List Ev) (ao : Option Addr) (c : Nat) (B : Nat) (w : World) (hB : B ≤ w.heap.size) (hE : Evs B w ao es) (hn : es.length ≤ 4611686018427387903) :
    Calls Tryz.prog 25 #[.agg #[.int .i64 v, .int .i64 s, .slice ao es.length c]] w fun e w' => e = .returned (.bool (rdOk v es)) ∧ Below w.heap.size w w' := by
  have hbx := below_box w (.cells #[.int .i64 v, .int .i64 s, .slice ao es.length c] 24)
  have HB := Lib.hid hbx
  have HE := Lib.hid (hE.below (hbx.mono hB))
  clear hE hbx
  go_enter Tryz.func25, Tryz.ntmps25
  go_wp2_with fail
  refine (valid47 ⟨#[120]⟩ v es ao c B _ (by simp; omega) HE.out hn).mono ?_
  rintro e w1 ⟨rfl, hb1⟩
  have HB1 := Lib.hid (HB.out.trans (hb1.mono (by simp; try omega)))
  clear hb1
  have HR := Lib.hid (feed_rd ⟨#[120]⟩ v es (by decide))
  by_cases h : feedV ⟨#[120]⟩ v es = 0
  · have HR2 := Lib.hid (show rdOk v es = true from by rw [← HR.out]; simpa using h)
    rw [h]
    clear h
    go_wp2_with fail
    go_ret
    exact ⟨ret_bool HR2.out.symm, HB1.out⟩
  · have HR2 := Lib.hid (show rdOk v es = false from by rw [← HR.out]; simpa using h)
    have hb : (feedV ⟨#[120]⟩ v es == 0) = false := by simpa using h
    clear h
    go_wp2_with fail
    go_ret
    exact ⟨ret_bool (by rw [HR2.out]), HB1.out⟩

/-- Few events, with few days apart from the regular ones. -/
def Short (es : List Ev) : Prop := es.length ≤ 300 ∧ ∀ e, e ∈ es → e.days.ex.length ≤ 200 ∧ e.days.xt.length ≤ 200

/-- What short leaves. -/
def ShortR (es : List Ev) (w : World) (e : Ending) (w' : World) : Prop := ∃ b : Bool, e = .returned (.bool b) ∧ (b = true → Short es) ∧ w' = w

set_option maxHeartbeats 4000000 in
set_option maxRecDepth 100000 in
theorem short16 (es : List Ev) (ao : Option Addr) (c : Nat) (B : Nat) (w : World) (hE : Evs B w ao es) (hn : es.length ≤ 4611686018427387903) :
    Calls Tryz.prog 16 #[.slice ao es.length c] w (ShortR es w) := by
  have HE := Lib.hid hE
  clear hE
  obtain ⟨n, hne⟩ : ∃ n, n = es.length := ⟨_, rfl⟩
  rw [← hne] at hn ⊢
  have HN := Lib.hid hne
  clear hne
  go_enter Tryz.func16, Tryz.ntmps16
  go_wp2_with fail
  go_loop [3] (fun iv => ∃ k : Nat, k ≤ n ∧ k ≤ 300 ∧ iv = .int .i64 k ∧ Hid (∀ j e, j < k → es[j]? = some e → e.days.ex.length ≤ 200 ∧ e.days.xt.length ≤ 200)) (fun iv => n - (intOf iv).toNat)
  case atStart => exact ⟨0, Nat.zero_le _, by omega, rfl, Lib.hid (fun j e h => absurd h (Nat.not_lt_zero _))⟩
  case round =>
    obtain ⟨k, hk, hk3, rfl, HF⟩ := hrel
    by_cases hlt : k < n
    · have hlti : (k : Int) < n := by omega
      by_cases hk4 : k < 300
      · have hk4i : (k : Int) < 300 := by omega
        have hke : k < es.length := by rw [← HN.out]; exact hlt
        rcases HE.out with h | ⟨g, o, rfl, hg, hc⟩
        · rw [h] at hke; simp at hke
        · obtain ⟨hEk, v, v', hv, ⟨ax, cx, rfl, -⟩, ⟨ay, cy, rfl, -⟩⟩ := hc k _ (List.getElem?_eq_getElem hke)
          have c7 := hv.c7
          have c8 := hv.c8
          clear hv hc
          obtain ⟨e, hee⟩ : ∃ e, e = es[k] := ⟨_, rfl⟩
          rw [← hee] at c7 c8 hEk
          have b1 := hEk.ex
          have b2 := hEk.xt
          have HEE := Lib.hid hee
          clear hee hEk
          by_cases g1 : e.days.ex.length ≤ 200
          · have g1i : ¬ (200 : Int) < e.days.ex.length := by omega
            by_cases g2 : e.days.xt.length ≤ 200
            · have g2i : ¬ (200 : Int) < e.days.xt.length := by omega
              have HF2 := Lib.hid (show ∀ j e, j < k + 1 → es[j]? = some e → e.days.ex.length ≤ 200 ∧ e.days.xt.length ≤ 200 from by
                intro j e' hj he'
                rcases Nat.lt_or_ge j k with h | h
                · exact HF.out j e' h he'
                · obtain rfl : j = k := by omega
                  rw [List.getElem?_eq_getElem hke, ← HEE.out] at he'
                  cases he'
                  exact ⟨g1, g2⟩)
              go_wp2_with fail
              go_round
              case rel => exact ⟨k + 1, by omega, by omega, by go_num, HF2⟩
              case measure => simp [intOf]; omega
            · have g2i : (200 : Int) < e.days.xt.length := by omega
              go_wp2_with fail
              go_ret
              exact ⟨false, rfl, (fun h => by cases h), rfl⟩
          · have g1i : (200 : Int) < e.days.ex.length := by omega
            go_wp2_with fail
            go_ret
            exact ⟨false, rfl, (fun h => by cases h), rfl⟩
      · have hk4i : ¬ (k : Int) < 300 := by omega
        have hne : ¬ (n : Int) ≤ 300 := by omega
        go_wp2_with fail
        go_ret
        exact ⟨false, rfl, (fun h => by cases h), rfl⟩
    · have hlti : ¬ (k : Int) < n := by omega
      have hle : (n : Int) ≤ 300 := by omega
      have HS := Lib.hid (show Short es from ⟨by rw [← HN.out]; omega, fun e he => by
        obtain ⟨j, hj⟩ := List.mem_iff_getElem?.1 he
        have : j < es.length := (List.getElem?_eq_some_iff.1 hj).1
        exact HF.out j e (by rw [← HN.out] at this; omega) hj⟩)
      go_wp2_with fail
      go_ret
      exact ⟨true, rfl, fun _ => HS.out, rfl⟩
end Go.Proofs.YtageielcdebjlaaGreatDoor
namespace Go.Proofs.YtageielcdebjlaaGreatDoor
open Go.RowKit

/-- What an event refers to, in blocks below B. -/
def RefS (B : Nat) (w : World) (t : Ev × Value × Value) : Prop := EvB t.1 ∧ SlI B w t.2.1 t.1.days.ex ∧ SlI B w t.2.2 t.1.days.xt
theorem RefS.below {B : Nat} {w w' : World} {t : Ev × Value × Value} (h : RefS B w t) (hw : Below B w w') : RefS B w' t := ⟨h.1, h.2.1.below hw, h.2.2.below hw⟩
theorem RefS.mono {B B' : Nat} {w : World} {t : Ev × Value × Value} (h : RefS B w t) (hB : B ≤ B') : RefS B' w t := ⟨h.1, h.2.1.mono hB, h.2.2.mono hB⟩

/-- A stretch of events from an address on, in blocks below B. -/
structure Seg (B : Nat) (w : World) (ao : Option Addr) (ts : List (Ev × Value × Value)) : Prop where
  at' : ts = [] ∨ ∃ b o, ao = some ⟨b, o, none⟩ ∧ b < B ∧ ∀ (j : Nat) (u : Value), (tCells ts)[j]? = some u → w.cell? ⟨b, o + j, none⟩ = some u
  ref : ∀ t ∈ ts, RefS B w t

theorem Seg.below {B : Nat} {w w' : World} {ao : Option Addr} {ts : List (Ev × Value × Value)} (h : Seg B w ao ts) (hw : Below B w w') : Seg B w' ao ts := by
  refine ⟨?_, fun t ht => (h.ref t ht).below hw⟩
  rcases h.at' with h | ⟨b, o, ha, hb, hc⟩
  · exact .inl h
  · exact .inr ⟨b, o, ha, hb, fun j u hj => (hw.cell (p := ⟨b, o + j, none⟩) hb).trans (hc j u hj)⟩
theorem Seg.mono {B B' : Nat} {w : World} {ao : Option Addr} {ts : List (Ev × Value × Value)} (h : Seg B w ao ts) (hB : B ≤ B') : Seg B' w ao ts := by
  refine ⟨?_, fun t ht => (h.ref t ht).mono hB⟩
  rcases h.at' with h | ⟨b, o, ha, hb, hc⟩
  · exact .inl h
  · exact .inr ⟨b, o, ha, by omega, hc⟩
theorem Seg.nil (B : Nat) (w : World) (ao : Option Addr) : Seg B w ao [] := ⟨.inl rfl, fun t h => by cases h⟩

theorem tCells_app (a b : List (Ev × Value × Value)) : tCells (a ++ b) = tCells a ++ tCells b := by unfold tCells; simp
theorem tCells_take (ts : List (Ev × Value × Value)) (k : Nat) (hk : k ≤ ts.length) : tCells (ts.take k) = (tCells ts).take (k * 13) := by
  have h : tCells ts = tCells (ts.take k) ++ tCells (ts.drop k) := by rw [← tCells_app, List.take_append_drop]
  rw [h, List.take_left' (by rw [tCells_len, List.length_take, Nat.min_eq_left hk])]
theorem tCells_drop (ts : List (Ev × Value × Value)) (k : Nat) (hk : k ≤ ts.length) : tCells (ts.drop k) = (tCells ts).drop (k * 13) := by
  have h : tCells ts = tCells (ts.take k) ++ tCells (ts.drop k) := by rw [← tCells_app, List.take_append_drop]
  rw [h, List.drop_left' (by rw [tCells_len, List.length_take, Nat.min_eq_left hk])]

theorem Seg.take {B : Nat} {w : World} {ao : Option Addr} {ts : List (Ev × Value × Value)} (h : Seg B w ao ts) (k : Nat) (hk : k ≤ ts.length) : Seg B w ao (ts.take k) := by
  refine ⟨?_, fun t ht => h.ref t (List.mem_of_mem_take ht)⟩
  rcases h.at' with h | ⟨b, o, ha, hb, hc⟩
  · exact .inl (by rw [h]; simp)
  · refine .inr ⟨b, o, ha, hb, fun j u hj => hc j u ?_⟩
    rw [tCells_take ts k hk, List.getElem?_take] at hj
    split at hj
    · exact hj
    · cases hj
theorem Seg.drop {B : Nat} {w : World} {b o : Nat} {ts : List (Ev × Value × Value)} (h : Seg B w (some ⟨b, o, none⟩) ts) (k : Nat) (hk : k ≤ ts.length) : Seg B w (some ⟨b, o + k * 13, none⟩) (ts.drop k) := by
  refine ⟨?_, fun t ht => h.ref t (List.mem_of_mem_drop ht)⟩
  rcases h.at' with h | ⟨b', o', ha, hb, hc⟩
  · exact .inl (by rw [h]; simp)
  · cases ha
    refine .inr ⟨b, o + k * 13, rfl, hb, fun j u hj => ?_⟩
    rw [tCells_drop ts k hk, List.getElem?_drop] at hj
    rw [Nat.add_assoc]
    exact hc _ u hj
theorem seg_c {w : World} {b o : Nat} {ts : List (Ev × Value × Value)} (h : ∀ (j : Nat) (u : Value), (tCells ts)[j]? = some u → w.cell? ⟨b, o + j, none⟩ = some u) (j : Nat) (t : Ev × Value × Value) (ht : ts[j]? = some t) : EvC b (o + j * 13) t.1 t.2.1 t.2.2 w := by
  have hc : ∀ i u, i < 13 → (evCells t.1 t.2.1 t.2.2).toList[i]? = some u → w.cell? ⟨b, o + j * 13 + i, none⟩ = some u := fun i u hi hu => by
    rw [Nat.add_assoc]
    exact h (j * 13 + i) u (by rw [tCells_get ts j i t ht hi]; exact hu)
  refine ⟨?_, ?_, ?_, ?_, ?_, ?_, ?_, ?_, ?_, ?_, ?_, ?_, ?_⟩
  · exact hc 0 _ (by omega) rfl
  · exact hc 1 _ (by omega) rfl
  · exact hc 2 _ (by omega) rfl
  · exact hc 3 _ (by omega) rfl
  · exact hc 4 _ (by omega) rfl
  · exact hc 5 _ (by omega) rfl
  · exact hc 6 _ (by omega) rfl
  · exact hc 7 _ (by omega) rfl
  · exact hc 8 _ (by omega) rfl
  · exact hc 9 _ (by omega) rfl
  · exact hc 10 _ (by omega) rfl
  · exact hc 11 _ (by omega) rfl
  · exact hc 12 _ (by omega) rfl
theorem Seg.evs {B : Nat} {w : World} {ao : Option Addr} {ts : List (Ev × Value × Value)} (h : Seg B w ao ts) : Evs B w ao (ts.map (·.1)) := by
  rcases h.at' with h | ⟨b, o, ha, hb, hc⟩
  · exact .inl (by rw [h]; rfl)
  · refine .inr ⟨b, o, ha, hb, fun j e hj => ?_⟩
    obtain ⟨t, ht, he⟩ : ∃ t, ts[j]? = some t ∧ t.1 = e := by
      rw [List.getElem?_map] at hj
      cases h2 : ts[j]? with
      | none => rw [h2] at hj; cases hj
      | some t => rw [h2] at hj; exact ⟨t, rfl, by simpa using hj⟩
    subst he
    obtain ⟨r1, r2, r3⟩ := h.ref t (List.mem_of_getElem? ht)
    exact ⟨r1, t.2.1, t.2.2, seg_c hc j t ht, r2, r3⟩
theorem RowE.seg {lo : Nat} {w : World} {v : Value} {ts : List (Ev × Value × Value)} (h : RowE lo w v ts) : ∃ ao c, v = .slice ao ts.length c ∧ Seg w.heap.size w ao ts := by
  have hr : ∀ t ∈ ts, RefS w.heap.size w t := fun t ht => by
    obtain ⟨hg, hx, hy⟩ := h.ref t ht
    obtain ⟨ax, cx, e1, i1⟩ := hx.ints
    obtain ⟨ay, cy, e2, i2⟩ := hy.ints
    exact ⟨hg.b, ⟨ax, cx, e1, i1⟩, ⟨ay, cy, e2, i2⟩⟩
  rcases h.row.2 with ⟨hv, h0⟩ | ⟨g, cap, cur, hv, r2, r3, r4, r5, _⟩
  · have : ts = [] := List.eq_nil_of_length_eq_zero h0
    subst this
    exact ⟨none, 0, hv, Seg.nil _ _ _⟩
  · refine ⟨_, cap, hv, .inr ⟨g, 0, rfl, (Array.getElem?_eq_some_iff.1 r3).1, fun j u hj => ?_⟩, hr⟩
    have := h.row.cells (g := g) (by rw [hv]; rfl) j u hj
    rw [Addr.add_lit] at this
    exact this
end Go.Proofs.YtageielcdebjlaaGreatDoor
namespace Go.Proofs.YtageielcdebjlaaGreatDoor
open Go.RowKit

theorem Seg.one {B : Nat} {w : World} {ao : Option Addr} {ts : List (Ev × Value × Value)} (h : Seg B w ao ts) : ∀ u ∈ tCells ts, u.oneCell' = true := by
  intro u hu
  unfold tCells at hu
  obtain ⟨t, ht, hut⟩ := List.mem_flatMap.1 hu
  obtain ⟨_, ⟨ax, cx, e1, _⟩, ⟨ay, cy, e2, _⟩⟩ := h.ref t ht
  rw [e1, e2] at hut
  exact evCells_one _ _ _ _ _ _ _ u hut

/-- 'append(s, x...)' where s is a row of the call's own and x a stretch of events in memory. -/
theorem wpList_append_seg {P : Program} {w : World} {ops : Array Oper} {rest : List Oper} {o : Oper} {a : Act} {Q : Exit → Act → World → Prop} (hgd : o.guard = none) (s x : Operand) (t : TypeId)
    (ho : o.op = .call { callee := .builtin .append, args := #[s, x], argTypes := #[t, t] })
    (base : Nat) (i : TypeInfo) (z : Value) (bytes : Nat) (ht : P.underlying t = some (.slice 82)) (hi : P.info? 82 = some i) (hz : i.zero = some z)
    (hsize : i.size = 13) (hby : i.bytes = bytes) (hzs : z.cells.size = 13)
    (v : Value) (n : Nat) (xs : List Value) (hs : a.eval s = v) (hown : w.ownsRow base 82 13 v n xs)
    (B : Nat) (ao : Option Addr) (c : Nat) (ts : List (Ev × Value × Value)) (hx : a.eval x = .slice ao ts.length c) (hseg : Seg B w ao ts) (hnil : ao = none → c = 0)
    (h63 : n + ts.length ≤ maxLen) (hbytes : (n + ts.length) * bytes ≤ 140737488355328) (hbase : base ≤ w.heap.size)
    (h : ∀ v' w', w'.ownsRow base 82 13 v' (n + ts.length) (xs ++ tCells ts) → w.grownBy w' v.ownBlock → (v'.ownBlock = v.ownBlock ∨ v'.ownBlock = some w.heap.size) → wpList P ops Q rest (a.put o.dst v') w') :
    wpList P ops Q (o :: rest) a w := by
  cases ao with
  | none =>
    have hn : ts = [] := by
      rcases hseg.at' with h | ⟨b, o, ha, _⟩
      · exact h
      · cases ha
    subst hn
    rw [hnil rfl] at hx
    exact wpList_append_own_none hgd s x t ho base 82 i 13 ht hi v n xs hs hown hx (h v w (by simpa [tCells] using hown) (World.grownBy.refl w _) (.inl rfl))
  | some ad =>
    refine wpList_append_own_at w hgd s x t ho base 82 i z 13 bytes ht hi hz hsize hby hzs (by decide) v n xs hs hown ad ts.length c (tCells ts) hx (tCells_len ts) (fun j u hj => ?_) hseg.one h63 hbytes hbase (fun v' w' a1 a2 _ a4 => h v' w' a1 a2 a4)
    rcases hseg.at' with h | ⟨b, o, ha, _, hc⟩
    · rw [h] at hj; simp [tCells] at hj
    · cases ha
      rw [Addr.add_lit]
      exact hc j u hj
end Go.Proofs.YtageielcdebjlaaGreatDoor
