/- Days told as a series for a number of weeks: recurrence.with (207). -/
import Derived.Test.YtcomifbfldoeiaaGreatDoorPk13
namespace Tt
/-- How many more days are there than not, on a weekday. -/
def scK (ds : List Int) (e w : Int) (k : Nat) : Int := hitK ds e w k - missK ds e w k
theorem scK_bd (ds : List Int) (e w : Int) (k : Nat) : -(k : Int) ≤ scK ds e w k ∧ scK ds e w k ≤ k := by
  have := hitK_bd ds e w k; unfold scK; omega
theorem scK_step (ds : List Int) (e w : Int) (k : Nat) : scK ds e w (k + 1) = scK ds e w k + (if onB ds e w (fstD ds + k) = true then (if fstD ds + k ∈ ds then 1 else -1) else 0) := by
  unfold scK
  rw [hitK, missK]
  by_cases h1 : onB ds e w (fstD ds + k) = true
  · by_cases h2 : fstD ds + (k : Int) ∈ ds
    · simp [h1, h2]; omega
    · simp [h1, h2]; omega
  · simp [h1]
theorem wdK_sc (ds : List Int) (e : Int) (j : Nat) : wdK ds e (j + 1) = if 0 < scK ds e j (spanN ds) then wdK ds e j ||| 2 ^ j else wdK ds e j := by
  rw [wdK]
  unfold scK
  by_cases h : missK ds e j (spanN ds) < hitK ds e j (spanN ds)
  · rw [if_pos h, if_pos (by omega)]
  · rw [if_neg h, if_neg (by omega)]
end Tt
namespace Go.Proofs.YtcomifbfldoeiaaGreatDoor
open Go.RowKit Go.Maps

def arrK (ds : List Int) (e : Int) (k : Nat) : Array Value := #[.int .i64 (Tt.scK ds e 0 k), .int .i64 (Tt.scK ds e 1 k), .int .i64 (Tt.scK ds e 2 k), .int .i64 (Tt.scK ds e 3 k), .int .i64 (Tt.scK ds e 4 k), .int .i64 (Tt.scK ds e 5 k), .int .i64 (Tt.scK ds e 6 k)]
theorem arrK_at (ds : List Int) (e : Int) (k x : Nat) (h : x < 7) : (arrK ds e k)[x]? = some (.int .i64 (Tt.scK ds e x k)) := by
  rcases (show x = 0 ∨ x = 1 ∨ x = 2 ∨ x = 3 ∨ x = 4 ∨ x = 5 ∨ x = 6 by omega) with rfl | rfl | rfl | rfl | rfl | rfl | rfl <;> rfl
theorem arrK_same (ds : List Int) (e : Int) (k : Nat) (h : Tt.cnt (Tt.fstD ds) e (Tt.fstD ds + k) = false) : arrK ds e (k + 1) = arrK ds e k := by
  unfold arrK
  simp only [Tt.scK_step, Tt.onB, h, Bool.and_false, Bool.false_eq_true, if_false, Int.add_zero]
theorem arrK_step (ds : List Int) (e : Int) (k x : Nat) (hx : x < 7) (hw : Tt.wk (Tt.fstD ds + k) = x) (h : Tt.cnt (Tt.fstD ds) e (Tt.fstD ds + k) = true) (s : Int) (hs : s = if Tt.fstD ds + (k : Int) ∈ ds then 1 else -1) : (arrK ds e k).setIfInBounds x (.int .i64 (Tt.scK ds e x k + s)) = arrK ds e (k + 1) := by
  unfold arrK
  simp only [Tt.scK_step, Tt.onB, h, hw, Bool.and_true, decide_eq_true_eq]
  rw [← hs]; rcases (show x = 0 ∨ x = 1 ∨ x = 2 ∨ x = 3 ∨ x = 4 ∨ x = 5 ∨ x = 6 by omega) with rfl | rfl | rfl | rfl | rfl | rfl | rfl <;> simp
theorem map278 : Tryz.prog.underlying 267 = some (.map 3 4) := by kernel_rfl
theorem take_succ_of {ds : List Int} {k : Nat} {d : Int} (h : ds[k]? = some d) : ds.take (k + 1) = ds.take k ++ [d] := by
  obtain ⟨h1, h2⟩ := List.getElem?_eq_some_iff.1 h
  rw [List.take_succ_eq_append_getElem h1, h2]
set_option maxHeartbeats 8000000 in
set_option maxRecDepth 100000 in
theorem with207 (ds : List Int) (ao : Option Addr) (c B : Nat) (e : Int) (w : World) (hd : Tt.DsOk ds) (hB : B ≤ w.heap.size) (hI : Ints B w ao ds) (he0 : 1 ≤ e) (he1 : e ≤ 4) : Calls Tryz.prog 151 #[.slice ao ds.length c, .int .i64 e] w (RetS (Tt.withV ds e) w) := by
  obtain ⟨i0, hii, hz0, hz1, hz2⟩ := info_parts infoInt
  obtain ⟨f0, f1, l0, l1⟩ := hd.bd
  have hfl := hd.le; have hfs := hd.sp; obtain ⟨hspn, hsp1⟩ := hd.span
  obtain ⟨b, o, ha, hb, hc0⟩ := hI.form hd.pos
  subst ha; have h1 := hc0 0 _ hd.first
  have h2 := hc0 _ _ hd.last
  rw [Nat.add_zero] at h1
  have HI := Lib.hid hI; have HDD := Lib.hid hd; have hdl := hd.len; have HC0 := Lib.hid hc0; obtain ⟨j, hj⟩ : ∃ j, ds.length = j + 1 := ⟨ds.length - 1, by have := hd.pos; omega⟩
  rw [hj, Nat.add_sub_cancel] at h2
  obtain ⟨F, hF⟩ : ∃ F, F = Tt.fstD ds := ⟨_, rfl⟩
  obtain ⟨L, hL⟩ : ∃ L, L = Tt.lstD ds := ⟨_, rfl⟩
  have HF := Lib.hid hF; have HL := Lib.hid hL; have hj0 : (0 : Int) ≤ (j : Int) := by omega
  have hj1 : (j : Int) < (j : Int) + 1 := by omega
  have hjz : (0 : Int) < (j : Int) + 1 := by omega
  have hjm : j ≤ 1000000 := by omega
  have HJ := Lib.hid hj; rw [← hF, ← hL] at hspn hfl hfs
  rw [← hF] at f0 f1 h1
  rw [← hL] at l0 l1 h2
  rw [hj]
  obtain ⟨R, hR⟩ : ∃ R, R = w.heap.size := ⟨_, rfl⟩
  obtain ⟨W0, hW0⟩ : ∃ W0, W0 = w.alloc (.cells #[.int .i64 0, .int .i64 0, .int .i64 0, .int .i64 0, .slice none 0 0, .slice none 0 0] 102) := ⟨_, rfl⟩
  have HB0 := Lib.hid (show Below w.heap.size w W0 from by rw [hW0]; exact below_box w _)
  have HR0 := Lib.hid (show Blk R #[.int .i64 0, .int .i64 0, .int .i64 0, .int .i64 0, .slice none 0 0, .slice none 0 0] 102 W0 from by rw [hW0, hR]; exact Blk.new w _ _)
  have g1 := (HB0.out.cell (p := ⟨b, o, none⟩) (show b < w.heap.size by omega)).trans h1
  have g2 := (HB0.out.cell (p := ⟨b, o + j, none⟩) (show b < w.heap.size by omega)).trans h2
  have HRW := Lib.hid hR; have hbw : b < w.heap.size := by omega
  have hb0 : b < W0.heap.size := by have := HB0.out.size; omega
  have hbne : b ≠ W0.heap.size := by omega
  clear hd hI hj hF hL hc0 h1 h2 hdl; have hmm := @run_makeMap Tryz.prog
  go_enter Tryz.func151, Tryz.ntmps151
  go_upto_region 1 with (fail)
  rw [← hW0, ← hR]; clear hW0 hR; go_region
  obtain ⟨S, hS⟩ : ∃ S, S = W0.heap.size := ⟨_, rfl⟩
  obtain ⟨W1, hW1⟩ : ∃ W, W = (W0.alloc (.cells #[.int .i64 F, .int .i64 L, .int .i64 e, .int .i64 0, .slice none 0 0, .slice none 0 0] 102)).drew := ⟨_, rfl⟩
  have HS0 := Lib.hid (show Blk S #[.int .i64 F, .int .i64 L, .int .i64 e, .int .i64 0, .slice none 0 0, .slice none 0 0] 102 W1 from by rw [hW1, hS]; exact Blk.draw (Blk.new W0 _ _))
  have HB1 := Lib.hid (show Below w.heap.size w W1 from by rw [hW1]; exact (HB0.out.trans ((below_box W0 _).mono HB0.out.size)).drew)
  have HRS := Lib.hid (show R < S ∧ w.heap.size ≤ S from ⟨by rw [hS]; exact HR0.out.lt, by rw [hS]; exact HB0.out.size⟩)
  have HR1 := Lib.hid (show Blk R #[.int .i64 0, .int .i64 0, .int .i64 0, .int .i64 0, .slice none 0 0, .slice none 0 0] 102 W1 from by rw [hW1]; exact Blk.draw (HR0.out.alloc _))
  rw [← hW1, ← hS]; clear hW1 hS HR0 HB0 g1 g2 hb0 hbne; go_upto_region 3 with (fail)
  obtain ⟨M, hM⟩ : ∃ M, M = W1.heap.size := ⟨_, rfl⟩
  obtain ⟨W2, hW2⟩ : ∃ W2, W2 = W1.alloc (.map #[] 0) := ⟨_, rfl⟩
  have HM0 := Lib.hid (show MapS M (ds.take 0) W2 from by rw [hW2, hM]; exact MapS.new W1)
  have HB2 := Lib.hid (show Below M W1 W2 from by rw [hW2, hM]; exact below_box W1 _)
  have HSM := Lib.hid (show S < M from by rw [hM]; exact HS0.out.lt)
  rw [← hW2, ← hM]; clear hW2 hM; go_wp2_with fail
  go_loopw [29] (fun iv wr => ∃ k : Nat, iv = .int .i64 k ∧ k ≤ j + 1 ∧ Hid (MapS M (ds.take k) wr) ∧ Hid (Below M W1 wr)) (fun iv _ => j + 1 - (intOf iv).toNat)
  case atStart => exact ⟨0, rfl, Nat.zero_le _, HM0, HB2⟩
  case round =>
    obtain ⟨k, rfl, hk, HM, HB⟩ := hrel; by_cases hlt : k < j + 1
    · obtain ⟨d, hdk⟩ : ∃ d, ds[k]? = some d := ⟨_, List.getElem?_eq_getElem (by have := HJ.out; omega)⟩
      have hki : (k : Int) < (j : Int) + 1 := by omega
      have hk00 : (0 : Int) ≤ (k : Int) := by omega
      have hcd := (HB.out.cell (p := ⟨b, o + k, none⟩) (by have := HRS.out.2; have := HSM.out; show b < M; omega)).trans ((HB1.out.cell (p := ⟨b, o + k, none⟩) hbw).trans (HC0.out k d hdk))
      have hdb := HDD.out.d d (List.mem_of_getElem? hdk)
      have HTK := Lib.hid (take_succ_of hdk)
      have htl : (ds.take k).length ≤ k := List.length_take_le _ _
      obtain ⟨D, hD, hDm, hDx⟩ := HM.out
      have HDD2 := Lib.hid hDx; have HDM := Lib.hid hDm; clear hdk hDx hDm; go_wp2_with (at_mapUpdate; refine wpList_mapUpdate_own _ rfl _ _ _ 267 rfl 3 4 keyI map278 _ M _ _ rfl hD (by unfold maxLen; omega) _ _ (.int .i64 d) rfl rfl (keyOf_int_mk Tryz.underlying3 (wf_i64 (by omega) (by omega))) _ [] (plainElem_bool Tryz.underlying4 true) ?_)
      intro w1 hown1 hgrow1; have HM1 := Lib.hid (show MapS M (ds.take (k + 1)) w1 from by rw [HTK.out]; exact MapS.put d HDM.out HDD2.out (by rw [List.length_take]; exact hown1))
      have HB3 := Lib.hid (show Below M W1 w1 from HB.out.trans ⟨hgrow1.os, hgrow1.tape, hgrow1.output, hgrow1.size, fun i hi => hgrow1.block i (by have := HM.out.lt; omega) (by intro h; cases h; omega)⟩)
      clear hown1 hgrow1 hcd; go_wp2_with fail
      go_roundw
      case rel => exact ⟨k + 1, by go_num, by omega, HM1, HB3⟩
      case measure => simp [intOf]; omega
    · have hki : ¬ (k : Int) < (j : Int) + 1 := by omega
      obtain rfl : k = j + 1 := by omega
      have HMD := Lib.hid (show MapS M ds wr from by have h := HM.out; rw [List.take_of_length_le (by have := HJ.out; omega)] at h; exact h)
      clear HM0 HB2; go_upto_region 9 with (fail)
      obtain ⟨A, hA⟩ : ∃ A, A = wr.heap.size := ⟨_, rfl⟩
      obtain ⟨W6, hW6⟩ : ∃ W6, W6 = wr.alloc (.cells #[.int .i64 0, .int .i64 0, .int .i64 0, .int .i64 0, .int .i64 0, .int .i64 0, .int .i64 0] 268) := ⟨_, rfl⟩
      have HA0 := Lib.hid (show Blk A (arrK ds e 0) 268 W6 from by rw [hW6, hA]; exact Blk.new wr _ _)
      have HM6 := Lib.hid (show MapS M ds W6 from HMD.out.block (by rw [hW6]; exact Lib.alloc_old wr _ _ HMD.out.lt))
      have HB6 := Lib.hid (show Below M W1 W6 from by rw [hW6]; exact HB.out.trans ((below_box wr _).mono (Nat.le_of_lt HMD.out.lt)))
      have HMA := Lib.hid (show M < A from by rw [hA]; exact HMD.out.lt)
      rw [← hW6, ← hA]; clear hW6 hA HMD HB HM wr; have HSc := Lib.hid (show ∀ X, Below M W1 X → Blk S #[.int .i64 F, .int .i64 L, .int .i64 e, .int .i64 0, .slice none 0 0, .slice none 0 0] 102 X from fun X hX => HS0.out.below hX HSM.out)
      have c0 : W6.cell? ⟨S, 0, none⟩ = some (.int .i64 F) := (HSc.out _ HB6.out).cell 0
      go_wp2_with fail
      clear c0; go_loopw [10] (fun iv wr => ∃ k : Nat, iv = .int .i64 (F + k) ∧ k ≤ Tt.spanN ds ∧ Hid (Blk A (arrK ds e k) 268 wr) ∧ Hid (MapS M ds wr) ∧ Hid (Below M W1 wr)) (fun iv _ => (L + 1 - intOf iv).toNat)
      case atStart => exact ⟨0, by simp, Nat.zero_le _, HA0, HM6, HB6⟩
      case round =>
        obtain ⟨k, rfl, hk, HA, HMw, HB⟩ := hrel; have c0 : wr.cell? ⟨S, 0, none⟩ = some (.int .i64 F) := (HSc.out _ HB.out).cell 0
        have c1 : wr.cell? ⟨S, 1, none⟩ = some (.int .i64 L) := (HSc.out _ HB.out).cell 1
        have c2 : wr.cell? ⟨S, 2, none⟩ = some (.int .i64 e) := (HSc.out _ HB.out).cell 2
        have c3 : wr.cell? ⟨S, 3, none⟩ = some (.int .i64 0) := (HSc.out _ HB.out).cell 3
        have c4 : wr.cell? ⟨S, 4, none⟩ = some (.slice none 0 0) := (HSc.out _ HB.out).cell 4
        have c5 : wr.cell? ⟨S, 5, none⟩ = some (.slice none 0 0) := (HSc.out _ HB.out).cell 5
        by_cases hlt : k < Tt.spanN ds
        · have hki : F + (k : Int) ≤ L := by omega
          have hk0 : (0 : Int) ≤ (k : Int) := by omega
          have hk1 : (k : Int) ≤ 141 := by omega
          have HLT := Lib.hid hlt; have HDI := Lib.hid (show Tt.isD (F + (k : Int)) = true from (Tt.isD_iff _).2 ⟨by omega, by omega⟩)
          have HFI := Lib.hid (show Tt.isD F = true from (Tt.isD_iff _).2 ⟨f0, f1⟩)
          go_wp2_with fail
          refine (counts280 F L e 0 (F + k) _ _ _ HFI.out HDI.out (by omega) he0 he1 none none 0 0 0 0 rfl rfl).mono ?_
          rintro q1 w2 ⟨rfl, hb2⟩; have HA2 := Lib.hid (HA.out.below hb2 HA.out.lt)
          have HM2 := Lib.hid (HMw.out.block (hb2.block M HMw.out.lt))
          have HB2 := Lib.hid (HB.out.trans (hb2.mono (Nat.le_of_lt HMw.out.lt)))
          clear hb2 c0 c1 c2 c3 c4 c5 HB HMw HA; obtain ⟨g, hg⟩ : ∃ g, g = Tt.cnt F e (F + k) := ⟨_, rfl⟩
          rw [← hg]; have HG := Lib.hid (show Tt.cnt (Tt.fstD ds) e (Tt.fstD ds + k) = g from by rw [hg, HF.out])
          clear hg; cases g
          · have HAR := Lib.hid (show arrK ds e (k + 1) = arrK ds e k from arrK_same ds e k HG.out)
            go_wp2_with fail
            go_roundw
            case rel => exact ⟨k + 1, by go_num, by have := HLT.out; omega, Lib.hid (by rw [HAR.out]; exact HA2.out), HM2, HB2⟩
            case measure => simp [intOf]; omega
          · have hlk := HM2.out.look map278 (F + (k : Int)) (by omega) (by omega)
            obtain ⟨i, hi⟩ : ∃ i, i = decide (F + (k : Int) ∈ ds) := ⟨_, rfl⟩
            rw [← hi] at hlk
            have HIN := Lib.hid (show (if Tt.fstD ds + (k : Int) ∈ ds then (1 : Int) else -1) = if i = true then 1 else -1 from by rw [hi, HF.out]; simp)
            clear hi; obtain ⟨w0, w1⟩ := Tt.wk_bd (F + (k : Int))
            obtain ⟨x, hx⟩ : ∃ x : Nat, Tt.wk (F + (k : Int)) = x := ⟨(Tt.wk (F + (k : Int))).toNat, by omega⟩
            have hx7 : x < 7 := by omega
            have hx8 : (x : Int) < 7 := by omega
            have hx0 : (0 : Int) ≤ (x : Int) := by omega
            have hax : w2.cell? ⟨A, x, none⟩ = some (.int .i64 (Tt.scK ds e x k)) := (HA2.out.cell x).trans (arrK_at ds e k x hx7)
            have hfx := HA2.out.frozen x; have hsb := Tt.scK_bd ds e x k; obtain ⟨sc, hsc⟩ : ∃ sc, sc = Tt.scK ds e x k := ⟨_, rfl⟩
            rw [← hsc] at hax hsb
            obtain ⟨hs1, hs2⟩ := hsb; have HST := Lib.hid (show ∀ s : Int, s = (if i = true then 1 else -1) → (arrK ds e k).setIfInBounds x (.int .i64 (sc + s)) = arrK ds e (k + 1) from fun s hs => by rw [hsc]; exact arrK_step ds e k x hx7 (by rw [← HF.out]; exact hx) HG.out s (by rw [hs, HIN.out]))
            have HWK := Lib.hid hx; clear hx w0 w1 hsc hx7; cases i
            · go_wp2_with fail
              refine (wkd191 _ _ HDI.out).mono ?_
              rintro q2 w3 ⟨rfl, hy⟩; rw [hy, HWK.out]
              clear hy w3; have HA3 := Lib.hid (show Blk A (arrK ds e (k + 1)) 268 (w2.setCell ⟨A, x, none⟩ (.int .i64 (sc - 1))) from by have h := HA2.out.set x (.int .i64 (sc - 1)); rw [show (sc - 1 : Int) = sc + -1 from by omega, (HST.out (-1) rfl)] at h; exact h)
              have HM3 := Lib.hid (show MapS M ds (w2.setCell ⟨A, x, none⟩ (.int .i64 (sc - 1))) from HM2.out.block (Below.heap_setCell _ _ _ _ (by have := HMA.out; show M ≠ A; omega)))
              have HB3 := Lib.hid (HB2.out.setCell (p := ⟨A, x, none⟩) (Nat.le_of_lt HMA.out) (.int .i64 (sc - 1)))
              go_wp2_with fail
              go_roundw
              case rel => exact ⟨k + 1, by go_num, by have := HLT.out; omega, HA3, HM3, HB3⟩
              case measure => simp [intOf]; omega
            · go_wp2_with fail
              refine (wkd191 _ _ HDI.out).mono ?_
              rintro q2 w3 ⟨rfl, hy⟩; rw [hy, HWK.out]
              clear hy w3; have HA3 := Lib.hid (show Blk A (arrK ds e (k + 1)) 268 (w2.setCell ⟨A, x, none⟩ (.int .i64 (sc + 1))) from by have h := HA2.out.set x (.int .i64 (sc + 1)); rw [(HST.out (1) rfl)] at h; exact h)
              have HM3 := Lib.hid (show MapS M ds (w2.setCell ⟨A, x, none⟩ (.int .i64 (sc + 1))) from HM2.out.block (Below.heap_setCell _ _ _ _ (by have := HMA.out; show M ≠ A; omega)))
              have HB3 := Lib.hid (HB2.out.setCell (p := ⟨A, x, none⟩) (Nat.le_of_lt HMA.out) (.int .i64 (sc + 1)))
              go_wp2_with fail
              go_roundw
              case rel => exact ⟨k + 1, by go_num, by have := HLT.out; omega, HA3, HM3, HB3⟩
              case measure => simp [intOf]; omega
        · have hki : ¬ (F + (k : Int) ≤ L) := by omega
          obtain rfl : k = Tt.spanN ds := by omega
          go_upto_region 16 with (fail)
          clear c0 c1 c2 c3 c4 c5; have HN0 := Lib.hid (show ∀ x : Nat, x < 7 → wr.cell? ⟨A, x, none⟩ = some (.int .i64 (Tt.scK ds e x (Tt.spanN ds))) from fun x hx => (HA.out.cell x).trans (arrK_at ds e _ x hx))
          have a0 : wr.cell? ⟨A, 0, none⟩ = some (.int .i64 (Tt.scK ds e 0 (Tt.spanN ds))) := HN0.out 0 (by omega)
          have a1 : wr.cell? ⟨A, 1, none⟩ = some (.int .i64 (Tt.scK ds e 1 (Tt.spanN ds))) := HN0.out 1 (by omega)
          have a2 : wr.cell? ⟨A, 2, none⟩ = some (.int .i64 (Tt.scK ds e 2 (Tt.spanN ds))) := HN0.out 2 (by omega)
          have a3 : wr.cell? ⟨A, 3, none⟩ = some (.int .i64 (Tt.scK ds e 3 (Tt.spanN ds))) := HN0.out 3 (by omega)
          have a4 : wr.cell? ⟨A, 4, none⟩ = some (.int .i64 (Tt.scK ds e 4 (Tt.spanN ds))) := HN0.out 4 (by omega)
          have a5 : wr.cell? ⟨A, 5, none⟩ = some (.int .i64 (Tt.scK ds e 5 (Tt.spanN ds))) := HN0.out 5 (by omega)
          have a6 : wr.cell? ⟨A, 6, none⟩ = some (.int .i64 (Tt.scK ds e 6 (Tt.spanN ds))) := HN0.out 6 (by omega)
          obtain ⟨W7, hW7⟩ : ∃ W7, W7 = wr := ⟨_, rfl⟩
          rw [← hW7] at HMw HB HA a0 a1 a2 a3 a4 a5 a6 ⊢
          clear hW7 HN0 HA; have HB7 := Lib.hid (show Below S W1 W7 from HB.out.mono (Nat.le_of_lt HSM.out))
          have HS7 := Lib.hid (HSc.out _ HB.out)
          go_wp2_with fail
          clear a0 a1 a2 a3 a4 a5 a6; go_loopw [66] (fun iv wr => ∃ jj : Nat, iv = .int .i64 jj ∧ jj ≤ 7 ∧ Hid (Blk S #[.int .i64 F, .int .i64 L, .int .i64 e, .int .i64 (Tt.wdK ds e jj), .slice none 0 0, .slice none 0 0] 102 wr) ∧ Hid (MapS M ds wr) ∧ Hid (Below S W1 wr)) (fun iv _ => 7 - (intOf iv).toNat)
          case atStart => exact ⟨0, rfl, by omega, HS7, HMw, HB7⟩
          case round =>
            obtain ⟨jj, rfl, hjj, HSj, HMj, HBj⟩ := hrel; by_cases hlt : jj < 7
            · have hvl := Tt.wdK_lt ds e jj hjj; obtain ⟨V, hV⟩ : ∃ V, V = Tt.wdK ds e jj := ⟨_, rfl⟩
              rw [← hV] at hvl HSj
              have HV := Lib.hid hV; clear hV; have HOR := Lib.hid (Tt.or_any0 jj hlt V hvl)
              have HW := Lib.hid (Tt.wdK_sc ds e jj)
              have hss := HSj.out.lt; have HSET := Lib.hid (show ∀ n : Nat, Blk S #[.int .i64 F, .int .i64 L, .int .i64 e, .int .i64 n, .slice none 0 0, .slice none 0 0] 102 (wr.setCell ⟨S, 3, none⟩ (.int .i64 n)) from fun n => HSj.out.set 3 _)
              have HMS := Lib.hid (show ∀ n : Nat, MapS M ds (wr.setCell ⟨S, 3, none⟩ (.int .i64 n)) from fun n => HMj.out.block (Below.heap_setCell _ _ _ _ (by have := HSM.out; show M ≠ S; omega)))
              have HBS := Lib.hid (show ∀ n : Nat, Below S W1 (wr.setCell ⟨S, 3, none⟩ (.int .i64 n)) from fun n => HBj.out.setCell (p := ⟨S, 3, none⟩) (Nat.le_refl S) _)
              have c3 : wr.cell? ⟨S, 3, none⟩ = some (.int .i64 V) := HSj.out.cell 3
              have f3 := HSj.out.frozen 3; rcases (show jj = 0 ∨ jj = 1 ∨ jj = 2 ∨ jj = 3 ∨ jj = 4 ∨ jj = 5 ∨ jj = 6 by omega) with rfl | rfl | rfl | rfl | rfl | rfl | rfl
              · have ix : ∀ w, (Instr.index 268 (.agg #[.int .i64 (Tt.scK ds e 0 (Tt.spanN ds)), .int .i64 (Tt.scK ds e 1 (Tt.spanN ds)), .int .i64 (Tt.scK ds e 2 (Tt.spanN ds)), .int .i64 (Tt.scK ds e 3 (Tt.spanN ds)), .int .i64 (Tt.scK ds e 4 (Tt.spanN ds)), .int .i64 (Tt.scK ds e 5 (Tt.spanN ds)), .int .i64 (Tt.scK ds e 6 (Tt.spanN ds))]) (.int .i64 0)).run Tryz.prog w = .ok (.int .i64 (Tt.scK ds e 0 (Tt.spanN ds))) w := fun _ => by kernel_rfl
                have hor : bits BinOp.or IntKind.i64 (V : Int) 1 = ((V ||| 1 : Nat) : Int) := by simpa using HOR.out
                have HOO := Lib.hid hor; clear hor; by_cases hpos : 0 < Tt.scK ds e 0 (Tt.spanN ds)
                · have HV2 := Lib.hid (show Tt.wdK ds e (0 + 1) = V ||| 1 from by rw [HW.out]; exact (if_pos hpos).trans (by rw [← HV.out]))
                  have hor := HOO.out; go_upto_region 20 with (fail)
                  go_region
                  go_wp2_with fail
                  go_roundw
                  case rel => exact ⟨1, by go_num, by omega, Lib.hid (by rw [HV2.out]; exact (HSET.out _).draw), Lib.hid ((HMS.out _).block rfl), Lib.hid (HBS.out _).drew⟩
                  case measure => simp [intOf]
                · have HV2 := Lib.hid (show Tt.wdK ds e (0 + 1) = V from by rw [HW.out]; exact (if_neg hpos).trans HV.out.symm)
                  go_wp2_with fail
                  go_roundw
                  case rel => exact ⟨1, by go_num, by omega, Lib.hid (by rw [HV2.out]; exact HSj.out), HMj, HBj⟩
                  case measure => simp [intOf]
              · have ix : ∀ w, (Instr.index 268 (.agg #[.int .i64 (Tt.scK ds e 0 (Tt.spanN ds)), .int .i64 (Tt.scK ds e 1 (Tt.spanN ds)), .int .i64 (Tt.scK ds e 2 (Tt.spanN ds)), .int .i64 (Tt.scK ds e 3 (Tt.spanN ds)), .int .i64 (Tt.scK ds e 4 (Tt.spanN ds)), .int .i64 (Tt.scK ds e 5 (Tt.spanN ds)), .int .i64 (Tt.scK ds e 6 (Tt.spanN ds))]) (.int .i64 1)).run Tryz.prog w = .ok (.int .i64 (Tt.scK ds e 1 (Tt.spanN ds))) w := fun _ => by kernel_rfl
                have hor : bits BinOp.or IntKind.i64 (V : Int) 2 = ((V ||| 2 : Nat) : Int) := by simpa using HOR.out
                have HOO := Lib.hid hor; clear hor; by_cases hpos : 0 < Tt.scK ds e 1 (Tt.spanN ds)
                · have HV2 := Lib.hid (show Tt.wdK ds e (1 + 1) = V ||| 2 from by rw [HW.out]; exact (if_pos hpos).trans (by rw [← HV.out]))
                  have hor := HOO.out; go_upto_region 20 with (fail)
                  go_region
                  go_wp2_with fail
                  go_roundw
                  case rel => exact ⟨2, by go_num, by omega, Lib.hid (by rw [HV2.out]; exact (HSET.out _).draw), Lib.hid ((HMS.out _).block rfl), Lib.hid (HBS.out _).drew⟩
                  case measure => simp [intOf]
                · have HV2 := Lib.hid (show Tt.wdK ds e (1 + 1) = V from by rw [HW.out]; exact (if_neg hpos).trans HV.out.symm)
                  go_wp2_with fail
                  go_roundw
                  case rel => exact ⟨2, by go_num, by omega, Lib.hid (by rw [HV2.out]; exact HSj.out), HMj, HBj⟩
                  case measure => simp [intOf]
              · have ix : ∀ w, (Instr.index 268 (.agg #[.int .i64 (Tt.scK ds e 0 (Tt.spanN ds)), .int .i64 (Tt.scK ds e 1 (Tt.spanN ds)), .int .i64 (Tt.scK ds e 2 (Tt.spanN ds)), .int .i64 (Tt.scK ds e 3 (Tt.spanN ds)), .int .i64 (Tt.scK ds e 4 (Tt.spanN ds)), .int .i64 (Tt.scK ds e 5 (Tt.spanN ds)), .int .i64 (Tt.scK ds e 6 (Tt.spanN ds))]) (.int .i64 2)).run Tryz.prog w = .ok (.int .i64 (Tt.scK ds e 2 (Tt.spanN ds))) w := fun _ => by kernel_rfl
                have hor : bits BinOp.or IntKind.i64 (V : Int) 4 = ((V ||| 4 : Nat) : Int) := by simpa using HOR.out
                have HOO := Lib.hid hor; clear hor; by_cases hpos : 0 < Tt.scK ds e 2 (Tt.spanN ds)
                · have HV2 := Lib.hid (show Tt.wdK ds e (2 + 1) = V ||| 4 from by rw [HW.out]; exact (if_pos hpos).trans (by rw [← HV.out]))
                  have hor := HOO.out; go_upto_region 20 with (fail)
                  go_region
                  go_wp2_with fail
                  go_roundw
                  case rel => exact ⟨3, by go_num, by omega, Lib.hid (by rw [HV2.out]; exact (HSET.out _).draw), Lib.hid ((HMS.out _).block rfl), Lib.hid (HBS.out _).drew⟩
                  case measure => simp [intOf]
                · have HV2 := Lib.hid (show Tt.wdK ds e (2 + 1) = V from by rw [HW.out]; exact (if_neg hpos).trans HV.out.symm)
                  go_wp2_with fail
                  go_roundw
                  case rel => exact ⟨3, by go_num, by omega, Lib.hid (by rw [HV2.out]; exact HSj.out), HMj, HBj⟩
                  case measure => simp [intOf]
              · have ix : ∀ w, (Instr.index 268 (.agg #[.int .i64 (Tt.scK ds e 0 (Tt.spanN ds)), .int .i64 (Tt.scK ds e 1 (Tt.spanN ds)), .int .i64 (Tt.scK ds e 2 (Tt.spanN ds)), .int .i64 (Tt.scK ds e 3 (Tt.spanN ds)), .int .i64 (Tt.scK ds e 4 (Tt.spanN ds)), .int .i64 (Tt.scK ds e 5 (Tt.spanN ds)), .int .i64 (Tt.scK ds e 6 (Tt.spanN ds))]) (.int .i64 3)).run Tryz.prog w = .ok (.int .i64 (Tt.scK ds e 3 (Tt.spanN ds))) w := fun _ => by kernel_rfl
                have hor : bits BinOp.or IntKind.i64 (V : Int) 8 = ((V ||| 8 : Nat) : Int) := by simpa using HOR.out
                have HOO := Lib.hid hor; clear hor; by_cases hpos : 0 < Tt.scK ds e 3 (Tt.spanN ds)
                · have HV2 := Lib.hid (show Tt.wdK ds e (3 + 1) = V ||| 8 from by rw [HW.out]; exact (if_pos hpos).trans (by rw [← HV.out]))
                  have hor := HOO.out; go_upto_region 20 with (fail)
                  go_region
                  go_wp2_with fail
                  go_roundw
                  case rel => exact ⟨4, by go_num, by omega, Lib.hid (by rw [HV2.out]; exact (HSET.out _).draw), Lib.hid ((HMS.out _).block rfl), Lib.hid (HBS.out _).drew⟩
                  case measure => simp [intOf]
                · have HV2 := Lib.hid (show Tt.wdK ds e (3 + 1) = V from by rw [HW.out]; exact (if_neg hpos).trans HV.out.symm)
                  go_wp2_with fail
                  go_roundw
                  case rel => exact ⟨4, by go_num, by omega, Lib.hid (by rw [HV2.out]; exact HSj.out), HMj, HBj⟩
                  case measure => simp [intOf]
              · have ix : ∀ w, (Instr.index 268 (.agg #[.int .i64 (Tt.scK ds e 0 (Tt.spanN ds)), .int .i64 (Tt.scK ds e 1 (Tt.spanN ds)), .int .i64 (Tt.scK ds e 2 (Tt.spanN ds)), .int .i64 (Tt.scK ds e 3 (Tt.spanN ds)), .int .i64 (Tt.scK ds e 4 (Tt.spanN ds)), .int .i64 (Tt.scK ds e 5 (Tt.spanN ds)), .int .i64 (Tt.scK ds e 6 (Tt.spanN ds))]) (.int .i64 4)).run Tryz.prog w = .ok (.int .i64 (Tt.scK ds e 4 (Tt.spanN ds))) w := fun _ => by kernel_rfl
                have hor : bits BinOp.or IntKind.i64 (V : Int) 16 = ((V ||| 16 : Nat) : Int) := by simpa using HOR.out
                have HOO := Lib.hid hor; clear hor; by_cases hpos : 0 < Tt.scK ds e 4 (Tt.spanN ds)
                · have HV2 := Lib.hid (show Tt.wdK ds e (4 + 1) = V ||| 16 from by rw [HW.out]; exact (if_pos hpos).trans (by rw [← HV.out]))
                  have hor := HOO.out; go_upto_region 20 with (fail)
                  go_region
                  go_wp2_with fail
                  go_roundw
                  case rel => exact ⟨5, by go_num, by omega, Lib.hid (by rw [HV2.out]; exact (HSET.out _).draw), Lib.hid ((HMS.out _).block rfl), Lib.hid (HBS.out _).drew⟩
                  case measure => simp [intOf]
                · have HV2 := Lib.hid (show Tt.wdK ds e (4 + 1) = V from by rw [HW.out]; exact (if_neg hpos).trans HV.out.symm)
                  go_wp2_with fail
                  go_roundw
                  case rel => exact ⟨5, by go_num, by omega, Lib.hid (by rw [HV2.out]; exact HSj.out), HMj, HBj⟩
                  case measure => simp [intOf]
              · have ix : ∀ w, (Instr.index 268 (.agg #[.int .i64 (Tt.scK ds e 0 (Tt.spanN ds)), .int .i64 (Tt.scK ds e 1 (Tt.spanN ds)), .int .i64 (Tt.scK ds e 2 (Tt.spanN ds)), .int .i64 (Tt.scK ds e 3 (Tt.spanN ds)), .int .i64 (Tt.scK ds e 4 (Tt.spanN ds)), .int .i64 (Tt.scK ds e 5 (Tt.spanN ds)), .int .i64 (Tt.scK ds e 6 (Tt.spanN ds))]) (.int .i64 5)).run Tryz.prog w = .ok (.int .i64 (Tt.scK ds e 5 (Tt.spanN ds))) w := fun _ => by kernel_rfl
                have hor : bits BinOp.or IntKind.i64 (V : Int) 32 = ((V ||| 32 : Nat) : Int) := by simpa using HOR.out
                have HOO := Lib.hid hor; clear hor; by_cases hpos : 0 < Tt.scK ds e 5 (Tt.spanN ds)
                · have HV2 := Lib.hid (show Tt.wdK ds e (5 + 1) = V ||| 32 from by rw [HW.out]; exact (if_pos hpos).trans (by rw [← HV.out]))
                  have hor := HOO.out; go_upto_region 20 with (fail)
                  go_region
                  go_wp2_with fail
                  go_roundw
                  case rel => exact ⟨6, by go_num, by omega, Lib.hid (by rw [HV2.out]; exact (HSET.out _).draw), Lib.hid ((HMS.out _).block rfl), Lib.hid (HBS.out _).drew⟩
                  case measure => simp [intOf]
                · have HV2 := Lib.hid (show Tt.wdK ds e (5 + 1) = V from by rw [HW.out]; exact (if_neg hpos).trans HV.out.symm)
                  go_wp2_with fail
                  go_roundw
                  case rel => exact ⟨6, by go_num, by omega, Lib.hid (by rw [HV2.out]; exact HSj.out), HMj, HBj⟩
                  case measure => simp [intOf]
              · have ix : ∀ w, (Instr.index 268 (.agg #[.int .i64 (Tt.scK ds e 0 (Tt.spanN ds)), .int .i64 (Tt.scK ds e 1 (Tt.spanN ds)), .int .i64 (Tt.scK ds e 2 (Tt.spanN ds)), .int .i64 (Tt.scK ds e 3 (Tt.spanN ds)), .int .i64 (Tt.scK ds e 4 (Tt.spanN ds)), .int .i64 (Tt.scK ds e 5 (Tt.spanN ds)), .int .i64 (Tt.scK ds e 6 (Tt.spanN ds))]) (.int .i64 6)).run Tryz.prog w = .ok (.int .i64 (Tt.scK ds e 6 (Tt.spanN ds))) w := fun _ => by kernel_rfl
                have hor : bits BinOp.or IntKind.i64 (V : Int) 64 = ((V ||| 64 : Nat) : Int) := by simpa using HOR.out
                have HOO := Lib.hid hor; clear hor; by_cases hpos : 0 < Tt.scK ds e 6 (Tt.spanN ds)
                · have HV2 := Lib.hid (show Tt.wdK ds e (6 + 1) = V ||| 64 from by rw [HW.out]; exact (if_pos hpos).trans (by rw [← HV.out]))
                  have hor := HOO.out; go_upto_region 20 with (fail)
                  go_region
                  go_wp2_with fail
                  go_roundw
                  case rel => exact ⟨7, by go_num, by omega, Lib.hid (by rw [HV2.out]; exact (HSET.out _).draw), Lib.hid ((HMS.out _).block rfl), Lib.hid (HBS.out _).drew⟩
                  case measure => simp [intOf]
                · have HV2 := Lib.hid (show Tt.wdK ds e (6 + 1) = V from by rw [HW.out]; exact (if_neg hpos).trans HV.out.symm)
                  go_wp2_with fail
                  go_roundw
                  case rel => exact ⟨7, by go_num, by omega, Lib.hid (by rw [HV2.out]; exact HSj.out), HMj, HBj⟩
                  case measure => simp [intOf]
            · have hji : ¬ (jj : Int) < 7 := by omega
              obtain rfl : jj = 7 := by omega
              obtain ⟨m, hm⟩ : ∃ m, m = Tt.wdK ds e 7 := ⟨_, rfl⟩
              have hm1 : m < 128 := by rw [hm]; exact Tt.wdK_lt ds e 7 (by omega)
              rw [← hm] at HSj
              have HMQ := Lib.hid hm; clear hm; obtain ⟨lo, hlo⟩ : ∃ lo, lo = wr.heap.size := ⟨_, rfl⟩
              have hlo0 : lo ≤ wr.heap.size := Nat.le_of_eq hlo
              have hMlo : M < lo := by rw [hlo]; exact HMj.out.lt
              have hSlo : S < lo := by rw [hlo]; exact HSj.out.lt
              have hwlo : w.heap.size ≤ lo := by have := HRS.out.2; omega
              clear hlo; have HS9 := Lib.hid (show SerM S lo (Tt.serK ds e m 0) (.slice none 0 0) (.slice none 0 0) wr from SerM.new (by have h := HSj.out; rw [HF.out, HL.out] at h; exact h))
              have c0 : wr.cell? ⟨S, 0, none⟩ = some (.int .i64 F) := HSj.out.cell 0
              clear HSj; have HC1 := Lib.hid (show ∀ (k : Nat) (hk : k < Tt.spanN ds) (p p' : Option Addr) (n n' c c' : Nat) (X : World), Calls Tryz.prog 215 #[.agg #[.int .i64 F, .int .i64 L, .int .i64 e, .int .i64 m, .slice p n c, .slice p' n' c'], .int .i64 (F + k)] X fun x w' => x = .returned (.bool (Tt.regB (Tt.headS ds e m) (F + k))) ∧ Below X.heap.size X w' from fun k hk p p' n n' c c' X => by rw [HF.out, HL.out]; exact regular220 (Tt.headS ds e m) _ X ((Tt.isD_iff _).2 ⟨by show 0 ≤ Tt.fstD ds; rw [← HF.out]; exact f0, by show Tt.fstD ds ≤ _; rw [← HF.out]; exact f1⟩) ((Tt.isD_iff _).2 ⟨by rw [← HF.out]; omega, by rw [← HF.out]; omega⟩) (by show Tt.fstD ds ≤ _; omega) (by show _ ≤ Tt.lstD ds; rw [← HF.out, ← HL.out]; omega) he0 he1 (show (0 : Int) ≤ (m : Int) by omega) (show (m : Int) ≤ 127 by omega) p p' n n' c c')
              go_wp2_with fail
              clear c0; go_loopw [13] (fun iv wr => ∃ (k : Nat) (p p' : Option Addr) (cc cc' : Nat), iv = .int .i64 (F + k) ∧ k ≤ Tt.spanN ds ∧ Hid (SerM S lo (Tt.serK ds e m k) (.slice p (Tt.exK ds (Tt.headS ds e m) k).length cc) (.slice p' (Tt.xtK ds (Tt.headS ds e m) k).length cc') wr) ∧ Hid (MapS M ds wr) ∧ Hid (Below S W1 wr) ∧ lo ≤ wr.heap.size) (fun iv _ => (L + 1 - intOf iv).toNat)
              case atStart => exact ⟨0, none, none, 0, 0, by simp, Nat.zero_le _, HS9, HMj, HBj, hlo0⟩
              case round =>
                clear HS9 HMj HBj; obtain ⟨k, p, p', cc, cc', rfl, hk, HM, HMp, HB, hlow⟩ := hrel; have hsz : S < wr.heap.size := HM.out.box.lt
                have c0 : wr.cell? ⟨S, 0, none⟩ = some (.int .i64 F) := ((show Blk S #[.int .i64 F, .int .i64 L, .int .i64 e, .int .i64 m, .slice p (Tt.exK ds (Tt.headS ds e m) k).length cc, .slice p' (Tt.xtK ds (Tt.headS ds e m) k).length cc'] 102 wr from by rw [HF.out, HL.out]; exact HM.out.box)).cell 0
                have c1 : wr.cell? ⟨S, 1, none⟩ = some (.int .i64 L) := ((show Blk S #[.int .i64 F, .int .i64 L, .int .i64 e, .int .i64 m, .slice p (Tt.exK ds (Tt.headS ds e m) k).length cc, .slice p' (Tt.xtK ds (Tt.headS ds e m) k).length cc'] 102 wr from by rw [HF.out, HL.out]; exact HM.out.box)).cell 1
                have c2 : wr.cell? ⟨S, 2, none⟩ = some (.int .i64 e) := ((show Blk S #[.int .i64 F, .int .i64 L, .int .i64 e, .int .i64 m, .slice p (Tt.exK ds (Tt.headS ds e m) k).length cc, .slice p' (Tt.xtK ds (Tt.headS ds e m) k).length cc'] 102 wr from by rw [HF.out, HL.out]; exact HM.out.box)).cell 2
                have c3 : wr.cell? ⟨S, 3, none⟩ = some (.int .i64 m) := ((show Blk S #[.int .i64 F, .int .i64 L, .int .i64 e, .int .i64 m, .slice p (Tt.exK ds (Tt.headS ds e m) k).length cc, .slice p' (Tt.xtK ds (Tt.headS ds e m) k).length cc'] 102 wr from by rw [HF.out, HL.out]; exact HM.out.box)).cell 3
                have c4 : wr.cell? ⟨S, 4, none⟩ = some (.slice p (Tt.exK ds (Tt.headS ds e m) k).length cc) := ((show Blk S #[.int .i64 F, .int .i64 L, .int .i64 e, .int .i64 m, .slice p (Tt.exK ds (Tt.headS ds e m) k).length cc, .slice p' (Tt.xtK ds (Tt.headS ds e m) k).length cc'] 102 wr from by rw [HF.out, HL.out]; exact HM.out.box)).cell 4
                have c5 : wr.cell? ⟨S, 5, none⟩ = some (.slice p' (Tt.xtK ds (Tt.headS ds e m) k).length cc') := ((show Blk S #[.int .i64 F, .int .i64 L, .int .i64 e, .int .i64 m, .slice p (Tt.exK ds (Tt.headS ds e m) k).length cc, .slice p' (Tt.xtK ds (Tt.headS ds e m) k).length cc'] 102 wr from by rw [HF.out, HL.out]; exact HM.out.box)).cell 5
                by_cases hlt : k < Tt.spanN ds
                rotate_left
                · have hki : ¬ (F + (k : Int) ≤ L) := by omega
                  obtain rfl : k = Tt.spanN ds := by omega
                  have HRr := Lib.hid (HR1.out.below HB.out HRS.out.1)
                  have r0 := HRr.out.frozen 0; have r1 := HRr.out.frozen 1; have r2 := HRr.out.frozen 2; have r3 := HRr.out.frozen 3; have r4 := HRr.out.frozen 4; have r5 := HRr.out.frozen 5; have z0 := HRr.out.cell 0; have z1 := HRr.out.cell 1; have z2 := HRr.out.cell 2; have z3 := HRr.out.cell 3; have z4 := HRr.out.cell 4; have z5 := HRr.out.cell 5; simp only [List.getElem?_toArray, List.getElem?_cons_zero, List.getElem?_cons_succ] at z0 z1 z2 z3 z4 z5
                  go_wp2_with fail
                  obtain ⟨Y, hY, hBk, hE⟩ := fill6R HRr.out rfl (HB1.out.trans (HB.out.mono HRS.out.2)) (by rw [HRW.out]; exact Nat.le_refl _) (.int .i64 F) (.int .i64 L) (.int .i64 e) (.int .i64 m) (.slice p (Tt.exK ds (Tt.headS ds e m) (Tt.spanN ds)).length cc) (.slice p' (Tt.xtK ds (Tt.headS ds e m) (Tt.spanN ds)).length cc')
                  have hX := row_setAll (by decide) [.int .i64 F, .int .i64 L, .int .i64 e, .int .i64 m, .slice p (Tt.exK ds (Tt.headS ds e m) (Tt.spanN ds)).length cc, .slice p' (Tt.xtK ds (Tt.headS ds e m) (Tt.spanN ds)).length cc'] 0 wr _ HM.out.ex HRr.out
                  have hX2 := row_setAll (by decide) [.int .i64 F, .int .i64 L, .int .i64 e, .int .i64 m, .slice p (Tt.exK ds (Tt.headS ds e m) (Tt.spanN ds)).length cc, .slice p' (Tt.xtK ds (Tt.headS ds e m) (Tt.spanN ds)).length cc'] 0 wr _ HM.out.xt HRr.out
                  rw [show setAll wr R 0 [.int .i64 F, .int .i64 L, .int .i64 e, .int .i64 m, .slice p (Tt.exK ds (Tt.headS ds e m) (Tt.spanN ds)).length cc, .slice p' (Tt.xtK ds (Tt.headS ds e m) (Tt.spanN ds)).length cc'] = Y from by rw [hY]; rfl] at hX hX2
                  have HX := Lib.hid (ownsRow_mono hX hwlo)
                  have HX2 := Lib.hid (ownsRow_mono hX2 hwlo)
                  rw [← hY]; clear hY hX hX2 r0 z0 c0 r1 z1 c1 r2 z2 c2 r3 z3 c3 r4 z4 c4 r5 z5 c5; have r0 := hBk.cell 0; have r1 := hBk.cell 1; have r2 := hBk.cell 2; have r3 := hBk.cell 3; have r4 := hBk.cell 4; have r5 := hBk.cell 5; simp only [List.getElem?_toArray, List.getElem?_cons_zero, List.getElem?_cons_succ] at r0 r1 r2 r3 r4 r5
                  refine bodyPost_ret (v := .agg #[.int .i64 F, .int .i64 L, .int .i64 e, .int .i64 m, .slice p (Tt.exK ds (Tt.headS ds e m) (Tt.spanN ds)).length cc, .slice p' (Tt.xtK ds (Tt.headS ds e m) (Tt.spanN ds)).length cc']) (by simp [results, Tryz.results151, go_sem, r0, r1, r2, r3, r4, r5]) rfl ?_
                  exact ⟨p, p', cc, cc', by rw [HF.out, HL.out, HMQ.out]; rfl, by have h := HX.out; rw [HMQ.out] at h; exact h, by have h := HX2.out; rw [HMQ.out] at h; exact h, hE⟩
                have hki : F + (k : Int) ≤ L := by omega
                have hk0 : (0 : Int) ≤ (k : Int) := by omega
                have hk1 : (k : Int) ≤ 141 := by omega
                have HLT := Lib.hid hlt; go_wp2_with fail
                refine (HC1.out k hlt p p' _ _ cc cc' _).mono ?_
                rintro qq w2 ⟨rfl, hb2⟩; have HB2 := Lib.hid (HB.out.trans (hb2.mono (Nat.le_of_lt hsz)))
                have HM2 := Lib.hid (HM.out.made hb2)
                have HMp2 := Lib.hid (HMp.out.block (hb2.block M HMp.out.lt))
                have hsz2 : S < w2.heap.size := HM2.out.box.lt
                have hlo2 : lo ≤ w2.heap.size := Nat.le_trans hlow hb2.size
                clear hb2 HB HM HMp c0 c1 c2 c3 c4 c5; have c0 : w2.cell? ⟨S, 0, none⟩ = some (.int .i64 F) := ((show Blk S #[.int .i64 F, .int .i64 L, .int .i64 e, .int .i64 m, .slice p (Tt.exK ds (Tt.headS ds e m) k).length cc, .slice p' (Tt.xtK ds (Tt.headS ds e m) k).length cc'] 102 w2 from by rw [HF.out, HL.out]; exact HM2.out.box)).cell 0
                have c1 : w2.cell? ⟨S, 1, none⟩ = some (.int .i64 L) := ((show Blk S #[.int .i64 F, .int .i64 L, .int .i64 e, .int .i64 m, .slice p (Tt.exK ds (Tt.headS ds e m) k).length cc, .slice p' (Tt.xtK ds (Tt.headS ds e m) k).length cc'] 102 w2 from by rw [HF.out, HL.out]; exact HM2.out.box)).cell 1
                have c2 : w2.cell? ⟨S, 2, none⟩ = some (.int .i64 e) := ((show Blk S #[.int .i64 F, .int .i64 L, .int .i64 e, .int .i64 m, .slice p (Tt.exK ds (Tt.headS ds e m) k).length cc, .slice p' (Tt.xtK ds (Tt.headS ds e m) k).length cc'] 102 w2 from by rw [HF.out, HL.out]; exact HM2.out.box)).cell 2
                have c3 : w2.cell? ⟨S, 3, none⟩ = some (.int .i64 m) := ((show Blk S #[.int .i64 F, .int .i64 L, .int .i64 e, .int .i64 m, .slice p (Tt.exK ds (Tt.headS ds e m) k).length cc, .slice p' (Tt.xtK ds (Tt.headS ds e m) k).length cc'] 102 w2 from by rw [HF.out, HL.out]; exact HM2.out.box)).cell 3
                have c4 : w2.cell? ⟨S, 4, none⟩ = some (.slice p (Tt.exK ds (Tt.headS ds e m) k).length cc) := ((show Blk S #[.int .i64 F, .int .i64 L, .int .i64 e, .int .i64 m, .slice p (Tt.exK ds (Tt.headS ds e m) k).length cc, .slice p' (Tt.xtK ds (Tt.headS ds e m) k).length cc'] 102 w2 from by rw [HF.out, HL.out]; exact HM2.out.box)).cell 4
                have c5 : w2.cell? ⟨S, 5, none⟩ = some (.slice p' (Tt.xtK ds (Tt.headS ds e m) k).length cc') := ((show Blk S #[.int .i64 F, .int .i64 L, .int .i64 e, .int .i64 m, .slice p (Tt.exK ds (Tt.headS ds e m) k).length cc, .slice p' (Tt.xtK ds (Tt.headS ds e m) k).length cc'] 102 w2 from by rw [HF.out, HL.out]; exact HM2.out.box)).cell 5
                obtain ⟨g, hg⟩ : ∃ g, g = Tt.regB (Tt.headS ds e m) (F + k) := ⟨_, rfl⟩
                rw [← hg]; have HG := Lib.hid (show Tt.regB (Tt.headS ds e m) ((Tt.headS ds e m).first + k) = g from by rw [hg, HF.out]; rfl)
                clear hg; have hlk := HMp2.out.look map278 (F + (k : Int)) (by omega) (by omega)
                obtain ⟨i, hi⟩ : ∃ i, i = decide (F + (k : Int) ∈ ds) := ⟨_, rfl⟩
                rw [← hi] at hlk
                have HIN := Lib.hid (show (decide ((Tt.headS ds e m).first + (k : Int) ∈ ds)) = i from by rw [hi, HF.out]; rfl)
                clear hi; have hxl := (Tt.exK_len ds (Tt.headS ds e m) k).1
                have hyl := (Tt.exK_len ds (Tt.headS ds e m) k).2
                obtain ⟨X, hXX⟩ : ∃ X, X = Tt.exK ds (Tt.headS ds e m) k := ⟨_, rfl⟩
                obtain ⟨Y, hYY⟩ : ∃ Y, Y = Tt.xtK ds (Tt.headS ds e m) k := ⟨_, rfl⟩
                have HM3 := Lib.hid (show SerM S lo ⟨Tt.fstD ds, Tt.lstD ds, e, m, X, Y⟩ (.slice p X.length cc) (.slice p' Y.length cc') w2 from by rw [hXX, hYY]; exact HM2.out)
                have HK := Lib.hid (show Tt.serK ds e m (k + 1) = ⟨Tt.fstD ds, Tt.lstD ds, e, m, (if g = true ∧ i = false then X ++ [F + (k : Int)] else X), (if g = false ∧ i = true then Y ++ [F + (k : Int)] else Y)⟩ from by
                  unfold Tt.serK
                  rw [Tt.exK, Tt.xtK, HG.out, ← hXX, ← hYY]
                  rw [show ((Tt.headS ds e m).first + (k : Int)) = F + k from by rw [HF.out]; rfl]
                  have h := HIN.out; rw [show ((Tt.headS ds e m).first + (k : Int)) = F + k from by rw [HF.out]; rfl] at h
                  cases g <;> cases i <;> simp_all)
                rw [← hXX] at c4 hxl
                rw [← hYY] at c5 hyl
                clear hXX hYY HM2; have HEXex := Lib.hid (show RowI lo w2 (.slice p X.length cc) X from HM3.out.ex)
                have HEXxt := Lib.hid (show RowI lo w2 (.slice p' Y.length cc') Y from HM3.out.xt)
                cases g
                rotate_left
                · cases i
                  · go_wp2_with (at_builtin; refine wpList_append_own_at _ rfl (.tmp 99) (.tmp 101) 22 rfl lo 3 i0 (.int .i64 0) 1 8 Tryz.underlying22 hii hz0 hz1 hz2 rfl (by decide) _ _ _ rfl (World.ownsRow.alloc HEXex.out _) ⟨w2.heap.size, 0, none⟩ 1 1 [.int .i64 (F + (k : Int))] rfl rfl (cell_one _ _ _) (by intro u hu; simp at hu; subst hu; rfl) (by unfold maxLen; omega) (by omega) (by simp; omega) ?_)
                    intro v2 x8 hown8 hgrow _ hat; obtain ⟨p2, c2x, hv2⟩ := ownsRow_len hown8
                    subst hv2; have HSZ8 := Lib.hid (show lo ≤ (x8.setCell ⟨S, 4, none⟩ (.slice p2 (X.length + 1) c2x)).heap.size from by have := hgrow.size; simp [World.setCell] at this ⊢; omega)
                    have HM8 := Lib.hid ((HM3.out.made (below_box w2 _)).addX hown8 hgrow (hat.imp id (fun h => by rw [h]; simp)))
                    have HP8 := Lib.hid (show MapS M ds (x8.setCell ⟨S, 4, none⟩ (.slice p2 (X.length + 1) c2x)) from (HMp2.out.block ((hgrow.block M (by have := HMp2.out.lt; simp; omega) (by intro h; have := (HEXex.out.lt M h.symm).1; omega)).trans (Lib.alloc_old w2 _ M HMp2.out.lt))).block (Below.heap_setCell _ _ _ _ (by have := HSM.out; show M ≠ S; omega)))
                    have HB8 := Lib.hid ((below_grownBy (HB2.out.trans ((below_box w2 _).mono (Nat.le_of_lt hsz2))) (World.ownsRow.alloc HEXex.out _) (by omega) (by simp; omega) hgrow).setCell (p := ⟨S, 4, none⟩) (Nat.le_refl S) (.slice p2 (X.length + 1) c2x))
                    have hcz := ((HM3.out.made (below_box w2 (.cells #[.int .i64 (F + (k : Int))] 3))).box.grown (World.ownsRow.alloc HEXex.out (.cells #[.int .i64 (F + (k : Int))] 3)) hgrow (by decide)).cell 4
                    have hfz := ((HM3.out.made (below_box w2 (.cells #[.int .i64 (F + (k : Int))] 3))).box.grown (World.ownsRow.alloc HEXex.out (.cells #[.int .i64 (F + (k : Int))] 3)) hgrow (by decide)).frozen 4
                    simp only [List.getElem?_toArray, List.getElem?_cons_zero, List.getElem?_cons_succ] at hcz
                    clear hown8 hgrow hat c0 c1 c2 c3 c4 c5 HM3 HB2 hlk; go_wp2_with fail
                    have HRL := Lib.hid (show SerM S lo (Tt.serK ds e m (k + 1)) (.slice p2 (Tt.exK ds (Tt.headS ds e m) (k + 1)).length c2x) (.slice p' (Tt.xtK ds (Tt.headS ds e m) (k + 1)).length cc') _ from by
                      rw [show Tt.exK ds (Tt.headS ds e m) (k + 1) = (Tt.serK ds e m (k + 1)).ex from rfl, show Tt.xtK ds (Tt.headS ds e m) (k + 1) = (Tt.serK ds e m (k + 1)).xt from rfl, HK.out]
                      exact by rw [if_pos ⟨by trivial, by trivial⟩, if_neg (fun h => by cases h.1)]; rw [List.length_append]; exact HM8.out)
                    go_roundw
                    case rel => exact ⟨k + 1, p2, p', c2x, cc', by go_num, by have := HLT.out; omega, HRL, HP8, HB8, HSZ8.out⟩
                    case measure => simp [intOf]; omega
                  · go_wp2_with fail
                    have HRL := Lib.hid (show SerM S lo (Tt.serK ds e m (k + 1)) (.slice p (Tt.exK ds (Tt.headS ds e m) (k + 1)).length cc) (.slice p' (Tt.xtK ds (Tt.headS ds e m) (k + 1)).length cc') _ from by
                      rw [show Tt.exK ds (Tt.headS ds e m) (k + 1) = (Tt.serK ds e m (k + 1)).ex from rfl, show Tt.xtK ds (Tt.headS ds e m) (k + 1) = (Tt.serK ds e m (k + 1)).xt from rfl, HK.out]
                      exact by rw [if_neg (fun h => by cases h.2), if_neg (fun h => by cases h.1)]; exact HM3.out)
                    go_roundw
                    case rel => exact ⟨k + 1, p, p', cc, cc', by go_num, by have := HLT.out; omega, HRL, HMp2, HB2, hlo2⟩
                    case measure => simp [intOf]; omega
                · cases i
                  rotate_left
                  · go_wp2_with (at_builtin; refine wpList_append_own_at _ rfl (.tmp 113) (.tmp 115) 22 rfl lo 3 i0 (.int .i64 0) 1 8 Tryz.underlying22 hii hz0 hz1 hz2 rfl (by decide) _ _ _ rfl (World.ownsRow.alloc HEXxt.out _) ⟨w2.heap.size, 0, none⟩ 1 1 [.int .i64 (F + (k : Int))] rfl rfl (cell_one _ _ _) (by intro u hu; simp at hu; subst hu; rfl) (by unfold maxLen; omega) (by omega) (by simp; omega) ?_)
                    intro v2 x8 hown8 hgrow _ hat; obtain ⟨p2, c2x, hv2⟩ := ownsRow_len hown8
                    subst hv2; have HSZ8 := Lib.hid (show lo ≤ (x8.setCell ⟨S, 5, none⟩ (.slice p2 (Y.length + 1) c2x)).heap.size from by have := hgrow.size; simp [World.setCell] at this ⊢; omega)
                    have HM8 := Lib.hid ((HM3.out.made (below_box w2 _)).addY hown8 hgrow (hat.imp id (fun h => by rw [h]; simp)))
                    have HP8 := Lib.hid (show MapS M ds (x8.setCell ⟨S, 5, none⟩ (.slice p2 (Y.length + 1) c2x)) from (HMp2.out.block ((hgrow.block M (by have := HMp2.out.lt; simp; omega) (by intro h; have := (HEXxt.out.lt M h.symm).1; omega)).trans (Lib.alloc_old w2 _ M HMp2.out.lt))).block (Below.heap_setCell _ _ _ _ (by have := HSM.out; show M ≠ S; omega)))
                    have HB8 := Lib.hid ((below_grownBy (HB2.out.trans ((below_box w2 _).mono (Nat.le_of_lt hsz2))) (World.ownsRow.alloc HEXxt.out _) (by omega) (by simp; omega) hgrow).setCell (p := ⟨S, 5, none⟩) (Nat.le_refl S) (.slice p2 (Y.length + 1) c2x))
                    have hcz := ((HM3.out.made (below_box w2 (.cells #[.int .i64 (F + (k : Int))] 3))).box.grown (World.ownsRow.alloc HEXxt.out (.cells #[.int .i64 (F + (k : Int))] 3)) hgrow (by decide)).cell 5
                    have hfz := ((HM3.out.made (below_box w2 (.cells #[.int .i64 (F + (k : Int))] 3))).box.grown (World.ownsRow.alloc HEXxt.out (.cells #[.int .i64 (F + (k : Int))] 3)) hgrow (by decide)).frozen 5
                    simp only [List.getElem?_toArray, List.getElem?_cons_zero, List.getElem?_cons_succ] at hcz
                    clear hown8 hgrow hat c0 c1 c2 c3 c4 c5 HM3 HB2 hlk; go_wp2_with fail
                    have HRL := Lib.hid (show SerM S lo (Tt.serK ds e m (k + 1)) (.slice p (Tt.exK ds (Tt.headS ds e m) (k + 1)).length cc) (.slice p2 (Tt.xtK ds (Tt.headS ds e m) (k + 1)).length c2x) _ from by
                      rw [show Tt.exK ds (Tt.headS ds e m) (k + 1) = (Tt.serK ds e m (k + 1)).ex from rfl, show Tt.xtK ds (Tt.headS ds e m) (k + 1) = (Tt.serK ds e m (k + 1)).xt from rfl, HK.out]
                      exact by rw [if_neg (fun h => by cases h.1), if_pos ⟨by trivial, by trivial⟩]; rw [List.length_append]; exact HM8.out)
                    go_roundw
                    case rel => exact ⟨k + 1, p, p2, cc, c2x, by go_num, by have := HLT.out; omega, HRL, HP8, HB8, HSZ8.out⟩
                    case measure => simp [intOf]; omega
                  · go_wp2_with fail
                    have HRL := Lib.hid (show SerM S lo (Tt.serK ds e m (k + 1)) (.slice p (Tt.exK ds (Tt.headS ds e m) (k + 1)).length cc) (.slice p' (Tt.xtK ds (Tt.headS ds e m) (k + 1)).length cc') _ from by
                      rw [show Tt.exK ds (Tt.headS ds e m) (k + 1) = (Tt.serK ds e m (k + 1)).ex from rfl, show Tt.xtK ds (Tt.headS ds e m) (k + 1) = (Tt.serK ds e m (k + 1)).xt from rfl, HK.out]
                      exact by rw [if_neg (fun h => by cases h.1), if_neg (fun h => by cases h.2)]; exact HM3.out)
                    go_roundw
                    case rel => exact ⟨k + 1, p, p', cc, cc', by go_num, by have := HLT.out; omega, HRL, HMp2, HB2, hlo2⟩
                    case measure => simp [intOf]; omega
end Go.Proofs.YtcomifbfldoeiaaGreatDoor
