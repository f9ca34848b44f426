/- The series of any ascending days: recurrence.Of (135). The event of a session, in plain words. The series of ascending days is valid, and its days are those days. No program in sight. -/
import Derived.Test.YtcomifbfldoeiaaGreatDoorOfW
import Derived.Test.YtcomifbfldoeiaaGreatDoorPk13
import Derived.Test.YtcomifbfldoeiaaGreatDoorPk8
namespace Tt
def zeroS : Ser := ⟨0, 0, 0, 0, [], []⟩
/-- The best series after k rounds. -/
def prevK (ds : List Int) : Nat → Ser
  | 0 => zeroS
  | k + 1 => bestK ds k
theorem prev_len (ds : List Int) (h : spanN ds ≤ 141) : ∀ k, (prevK ds k).ex.length ≤ 141 ∧ (prevK ds k).xt.length ≤ 141
  | 0 => ⟨Nat.zero_le _, Nat.zero_le _⟩
  | k + 1 => best_len ds h k
end Tt
namespace Go.Proofs.YtcomifbfldoeiaaGreatDoor
open Go.RowKit
set_option maxHeartbeats 8000000 in
set_option maxRecDepth 100000 in
theorem of135_nil (ao : Option Addr) (c : Nat) (w : World) : Calls Tryz.prog 88 #[.slice ao 0 c] w (RetC Tt.zeroS 16 w) := by
  obtain ⟨R, hR⟩ : ∃ R, R = w.heap.size := ⟨_, rfl⟩
  obtain ⟨W0, hW0⟩ : ∃ W0, W0 = w.alloc (.cells #[.int .i64 0, .int .i64 0, .int .i64 0, .int .i64 0, .slice none 0 0, .slice none 0 0] 102) := ⟨_, rfl⟩
  have HB0 := Lib.hid (show Below w.heap.size w W0 from by rw [hW0]; exact below_box w _)
  have HR0 := Lib.hid (show Blk R #[.int .i64 0, .int .i64 0, .int .i64 0, .int .i64 0, .slice none 0 0, .slice none 0 0] 102 W0 from by rw [hW0, hR]; exact Blk.new w _ _)
  have HRW := Lib.hid hR; go_enter Tryz.func88, Tryz.ntmps88
  go_upto_region 1 with (fail)
  rw [← hW0, ← hR]; clear hW0 hR; have r0 := HR0.out.frozen 0; have r1 := HR0.out.frozen 1; have r2 := HR0.out.frozen 2; have r3 := HR0.out.frozen 3; have r4 := HR0.out.frozen 4; have r5 := HR0.out.frozen 5; have z0 := HR0.out.cell 0; have z1 := HR0.out.cell 1; have z2 := HR0.out.cell 2; have z3 := HR0.out.cell 3; have z4 := HR0.out.cell 4; have z5 := HR0.out.cell 5; simp only [List.getElem?_toArray, List.getElem?_cons_zero, List.getElem?_cons_succ] at z0 z1 z2 z3 z4 z5
  go_wp2_with fail
  obtain ⟨Y, hY, hBk, hE⟩ := fill6R HR0.out rfl HB0.out (by rw [HRW.out]; exact Nat.le_refl _) (.int .i64 0) (.int .i64 0) (.int .i64 0) (.int .i64 0) (.slice none 0 0) (.slice none 0 0)
  rw [← hY]; clear hY r0 z0 r1 z1 r2 z2 r3 z3 r4 z4 r5 z5; have r0 := hBk.cell 0; have r1 := hBk.cell 1; have r2 := hBk.cell 2; have r3 := hBk.cell 3; have r4 := hBk.cell 4; have r5 := hBk.cell 5; simp only [List.getElem?_toArray, List.getElem?_cons_zero, List.getElem?_cons_succ] at r0 r1 r2 r3 r4 r5
  refine bodyPost_ret (v := .tuple #[.agg #[.int .i64 0, .int .i64 0, .int .i64 0, .int .i64 0, .slice none 0 0, .slice none 0 0], .int .i64 16]) (by simp [results, Tryz.results88, go_sem, r0, r1, r2, r3, r4, r5]) rfl ?_
  exact ⟨none, none, 0, 0, rfl, RowI.nil _ _, RowI.nil _ _, hE⟩
set_option maxHeartbeats 8000000 in
set_option maxRecDepth 100000 in
theorem of135 (ds : List Int) (ao : Option Addr) (c B : Nat) (w : World) (hd : Tt.DsOk ds) (has : Tt.AscD ds) (hB : B ≤ w.heap.size) (hI : Ints B w ao ds) : Calls Tryz.prog 88 #[.slice ao ds.length c] w (RetC (Tt.ofV ds) 0 w) := by
  obtain ⟨f0, f1, l0, l1⟩ := hd.bd
  have hfl := hd.le; have hfs := hd.sp; have HSPN := Lib.hid hd.span
  obtain ⟨b, o, ha, hb, hc0⟩ := hI.form hd.pos
  subst ha; have h1 := hc0 0 _ hd.first
  have h2 := hc0 _ _ hd.last
  rw [Nat.add_zero] at h1
  have HI := Lib.hid hI; have HDD := Lib.hid hd; have hdl := hd.len; have HC0 := Lib.hid hc0; have HAS := Lib.hid has; obtain ⟨n, hn⟩ : ∃ n, n = ds.length := ⟨_, rfl⟩
  have hnp : 0 < n := by rw [hn]; exact hd.pos
  rw [← hn] at hdl h2 ⊢
  have HN := Lib.hid hn; obtain ⟨j, hj⟩ : ∃ j, n = j + 1 := ⟨n - 1, by omega⟩
  rw [hj, Nat.add_sub_cancel] at h2
  obtain ⟨F, hF⟩ : ∃ F, F = Tt.fstD ds := ⟨_, rfl⟩
  obtain ⟨L, hL⟩ : ∃ L, L = Tt.lstD ds := ⟨_, rfl⟩
  rw [← hF, ← hL] at hfl hfs
  rw [← hF] at f0 f1 h1
  rw [← hL] at l0 l1 h2
  have hj0 : (0 : Int) ≤ (j : Int) := by omega
  have hj1 : (j : Int) < (j : Int) + 1 := by omega
  have hjz : (0 : Int) < (j : Int) + 1 := by omega
  have hjm : j ≤ 1000000 := by omega
  have hbw : b < w.heap.size := by omega
  have HBB := Lib.hid hB; have HG1 := Lib.hid h1; have HG2 := Lib.hid h2; subst hj; have hneb : ((j : Int) + 1 == 0) = false := beq_eq_false_iff_ne.2 (by omega)
  obtain ⟨R, hR⟩ : ∃ R, R = w.heap.size := ⟨_, rfl⟩
  obtain ⟨W0, hW0⟩ : ∃ W0, W0 = w.alloc (.cells #[.int .i64 0, .int .i64 0, .int .i64 0, .int .i64 0, .slice none 0 0, .slice none 0 0] 102) := ⟨_, rfl⟩
  have HB0 := Lib.hid (show Below w.heap.size w W0 from by rw [hW0]; exact below_box w _)
  have HR0 := Lib.hid (show Blk R #[.int .i64 0, .int .i64 0, .int .i64 0, .int .i64 0, .slice none 0 0, .slice none 0 0] 102 W0 from by rw [hW0, hR]; exact Blk.new w _ _)
  have HRW := Lib.hid hR; clear hd has hI hn hF hL hc0 h1 h2; go_enter Tryz.func88, Tryz.ntmps88
  go_upto_region 1 with (fail)
  rw [← hW0, ← hR]; clear hW0 hR; go_wp2_with fail
  go_loopw [15] (fun iv wr => ∃ k : Nat, iv = .int .i64 k ∧ k ≤ j + 1 ∧ Hid (Below w.heap.size w wr) ∧ Hid (Blk R #[.int .i64 0, .int .i64 0, .int .i64 0, .int .i64 0, .slice none 0 0, .slice none 0 0] 102 wr)) (fun iv _ => j + 1 - (intOf iv).toNat)
  case atStart => exact ⟨0, rfl, Nat.zero_le _, HB0, HR0⟩
  case round =>
    obtain ⟨k, rfl, hk, HBr, HRr0⟩ := hrel; by_cases hlt : k < j + 1
    · obtain ⟨d, hdk⟩ : ∃ d, ds[k]? = some d := ⟨_, List.getElem?_eq_getElem (by have := HN.out; omega)⟩
      have hki : (k : Int) < (j : Int) + 1 := by omega
      have hk00 : (0 : Int) ≤ (k : Int) := by omega
      have hcd := (HBr.out.cell (p := ⟨b, o + k, none⟩) hbw).trans (HC0.out k d hdk)
      have HD := Lib.hid (show Tt.isD d = true from (Tt.isD_iff _).2 (HDD.out.d d (List.mem_of_getElem? hdk)))
      cases k with
      | zero =>
        have hcd : wr.cell? ⟨b, o, none⟩ = some (.int .i64 d) := by simpa using hcd
        go_wp2_with fail
        refine (isD206 _ _).mono ?_
        rintro e w1 ⟨rfl, hx⟩; rw [hx, HD.out]
        clear hx w1; go_wp2_with fail
        go_roundw
        case rel => exact ⟨1, by go_num, by omega, HBr, HRr0⟩
        case measure => simp [intOf]
      | succ k =>
        obtain ⟨d2, hd2⟩ : ∃ d2, ds[k]? = some d2 := ⟨_, List.getElem?_eq_getElem (by have := HN.out; omega)⟩
        have hce := (HBr.out.cell (p := ⟨b, o + k, none⟩) hbw).trans (HC0.out k d2 hd2)
        have hasc : ¬ d ≤ d2 := by have := HAS.out k d2 d hd2 hdk; omega
        have hkn : ((k : Int) + 1).toNat = k + 1 := by omega
        have hk1 : (0 : Int) ≤ (k : Int) + 1 := by omega
        have hk2 : (k : Int) < (j : Int) + 1 := by omega
        have hk3 : (0 : Int) < (k : Int) + 1 := by omega
        have hk4 : (0 : Int) ≤ (k : Int) := by omega
        have hki2 : (k : Int) + 1 < (j : Int) + 1 := by omega
        clear hd2 hdk; go_wp2_with fail
        refine (isD206 _ _).mono ?_
        rintro e w1 ⟨rfl, hx⟩; rw [hx, HD.out]
        clear hx w1; go_wp2_with fail
        go_roundw
        case rel => exact ⟨k + 1 + 1, by go_num, by omega, HBr, HRr0⟩
        case measure => simp [intOf]; omega
    · have hki : ¬ (k : Int) < (j : Int) + 1 := by omega
      have g1 := (HBr.out.cell (p := ⟨b, o, none⟩) hbw).trans HG1.out
      have g2 := (HBr.out.cell (p := ⟨b, o + j, none⟩) hbw).trans HG2.out
      have hfs2 : ¬ F + 140 < L := by omega
      go_upto_region 11 with (fail)
      go_quiet (fail)
      obtain ⟨W1, hW1⟩ : ∃ W1, W1 = wr.drewN nq := ⟨_, rfl⟩
      have HB1 := Lib.hid (show Below w.heap.size w W1 from by rw [hW1]; exact HBr.out.trans ⟨rfl, rfl, rfl, Nat.le_refl _, fun k hk => rfl⟩)
      have HR1 := Lib.hid (show Blk R #[.int .i64 0, .int .i64 0, .int .i64 0, .int .i64 0, .slice none 0 0, .slice none 0 0] 102 W1 from by rw [hW1]; exact HRr0.out)
      rw [← hW1]; clear hW1 g1 g2 HRr0; have HCV := Lib.hid (show ∀ (e : Int) (X : World), 1 ≤ e → e ≤ 4 → Below w.heap.size w X → Calls Tryz.prog 151 #[.slice (some ⟨b, o, none⟩) (j + 1) c, .int .i64 e] X (RetS (Tt.withV ds e) X) from fun e X h0 h1 hX => by have h := with207 ds (some ⟨b, o, none⟩) c B e X HDD.out (Nat.le_trans HBB.out hX.size) (HI.out.below (hX.mono HBB.out)) h0 h1; rw [← HN.out] at h; exact h)
      obtain ⟨T, hT⟩ : ∃ T, T = W1.heap.size := ⟨_, rfl⟩
      obtain ⟨W4, hW4⟩ : ∃ W4, W4 = W1.alloc (.cells #[.int .i64 0, .int .i64 0, .int .i64 0, .int .i64 0, .slice none 0 0, .slice none 0 0] 102) := ⟨_, rfl⟩
      have HQ4 := Lib.hid (show SerQ T W1.heap.size (Tt.prevK ds 0) none none 0 0 W4 from by rw [hW4, hT]; exact ⟨Blk.new W1 _ _, RowI.nil _ _, RowI.nil _ _⟩)
      have HX4 := Lib.hid (show Below W1.heap.size W1 W4 from by rw [hW4]; exact below_box W1 _)
      have HT0 := Lib.hid (show W1.heap.size ≤ T from by rw [hT]; exact Nat.le_refl _)
      go_upto_region 14 with (fail)
      rw [← hW4, ← hT]; clear hW4 hT; go_wp2_with fail
      have HQT := Lib.hid (show W1.heap.size ≤ T from HT0.out)
      go_loopw [7] (fun iv wr => ∃ (e : Nat) (p p' : Option Addr) (cc cc' : Nat), iv = .int .i64 ((e : Int) + 1) ∧ e ≤ 4 ∧ Hid (SerQ T W1.heap.size (Tt.prevK ds e) p p' cc cc' wr) ∧ Hid (Below W1.heap.size W1 wr)) (fun iv _ => 5 - (intOf iv).toNat)
      case atStart => exact ⟨0, none, none, 0, 0, rfl, by omega, HQ4, HX4⟩
      case round =>
        clear HQ4 HX4; obtain ⟨e, p, p', cc, cc', rfl, he, HQ, HX⟩ := hrel; have HBw := Lib.hid (HB1.out.trans (HX.out.mono HB1.out.size))
        by_cases hlt : e < 4
        rotate_left
        · have hei : ¬ (e : Int) + 1 ≤ 4 := by omega
          obtain rfl : e = 4 := by omega
          have HQ := Lib.hid (show SerQ T W1.heap.size (Tt.bestK ds 3) p p' cc cc' wr from HQ.out)
          have c0 : wr.cell? ⟨T, 0, none⟩ = some (.int .i64 (Tt.bestK ds 3).first) := HQ.out.box.cell 0
          have c1 : wr.cell? ⟨T, 1, none⟩ = some (.int .i64 (Tt.bestK ds 3).last) := HQ.out.box.cell 1
          have c2 : wr.cell? ⟨T, 2, none⟩ = some (.int .i64 (Tt.bestK ds 3).every) := HQ.out.box.cell 2
          have c3 : wr.cell? ⟨T, 3, none⟩ = some (.int .i64 (Tt.bestK ds 3).wd) := HQ.out.box.cell 3
          have c4 : wr.cell? ⟨T, 4, none⟩ = some (.slice p (Tt.bestK ds 3).ex.length cc) := HQ.out.box.cell 4
          have c5 : wr.cell? ⟨T, 5, none⟩ = some (.slice p' (Tt.bestK ds 3).xt.length cc') := HQ.out.box.cell 5
          have HRr := Lib.hid (HR1.out.below HX.out HR1.out.lt)
          have r0 := HRr.out.frozen 0; have r1 := HRr.out.frozen 1; have r2 := HRr.out.frozen 2; have r3 := HRr.out.frozen 3; have r4 := HRr.out.frozen 4; have r5 := HRr.out.frozen 5; have z0 := HRr.out.cell 0; have z1 := HRr.out.cell 1; have z2 := HRr.out.cell 2; have z3 := HRr.out.cell 3; have z4 := HRr.out.cell 4; have z5 := HRr.out.cell 5; simp only [List.getElem?_toArray, List.getElem?_cons_zero, List.getElem?_cons_succ] at z0 z1 z2 z3 z4 z5
          go_wp2_with fail
          obtain ⟨Y, hY, hBk, hE⟩ := fill6R HRr.out rfl HBw.out (by rw [HRW.out]; exact Nat.le_refl _) (.int .i64 (Tt.bestK ds 3).first) (.int .i64 (Tt.bestK ds 3).last) (.int .i64 (Tt.bestK ds 3).every) (.int .i64 (Tt.bestK ds 3).wd) (.slice p (Tt.bestK ds 3).ex.length cc) (.slice p' (Tt.bestK ds 3).xt.length cc')
          have hX := row_setAll (by decide) [.int .i64 (Tt.bestK ds 3).first, .int .i64 (Tt.bestK ds 3).last, .int .i64 (Tt.bestK ds 3).every, .int .i64 (Tt.bestK ds 3).wd, .slice p (Tt.bestK ds 3).ex.length cc, .slice p' (Tt.bestK ds 3).xt.length cc'] 0 wr _ HQ.out.ex HRr.out
          have hX2 := row_setAll (by decide) [.int .i64 (Tt.bestK ds 3).first, .int .i64 (Tt.bestK ds 3).last, .int .i64 (Tt.bestK ds 3).every, .int .i64 (Tt.bestK ds 3).wd, .slice p (Tt.bestK ds 3).ex.length cc, .slice p' (Tt.bestK ds 3).xt.length cc'] 0 wr _ HQ.out.xt HRr.out
          rw [show setAll wr R 0 [.int .i64 (Tt.bestK ds 3).first, .int .i64 (Tt.bestK ds 3).last, .int .i64 (Tt.bestK ds 3).every, .int .i64 (Tt.bestK ds 3).wd, .slice p (Tt.bestK ds 3).ex.length cc, .slice p' (Tt.bestK ds 3).xt.length cc'] = Y from by rw [hY]; rfl] at hX hX2
          have HXX := Lib.hid (ownsRow_mono hX HB1.out.size)
          have HXX2 := Lib.hid (ownsRow_mono hX2 HB1.out.size)
          rw [← hY]; clear hY hX hX2 r0 z0 c0 r1 z1 c1 r2 z2 c2 r3 z3 c3 r4 z4 c4 r5 z5 c5; have r0 := hBk.cell 0; have r1 := hBk.cell 1; have r2 := hBk.cell 2; have r3 := hBk.cell 3; have r4 := hBk.cell 4; have r5 := hBk.cell 5; simp only [List.getElem?_toArray, List.getElem?_cons_zero, List.getElem?_cons_succ] at r0 r1 r2 r3 r4 r5
          refine bodyPost_ret (v := .tuple #[.agg #[.int .i64 (Tt.bestK ds 3).first, .int .i64 (Tt.bestK ds 3).last, .int .i64 (Tt.bestK ds 3).every, .int .i64 (Tt.bestK ds 3).wd, .slice p (Tt.bestK ds 3).ex.length cc, .slice p' (Tt.bestK ds 3).xt.length cc'], .int .i64 0]) (by simp [results, Tryz.results88, go_sem, r0, r1, r2, r3, r4, r5]) rfl ?_
          exact ⟨p, p', cc, cc', rfl, HXX.out, HXX2.out, hE⟩
        have hei : (e : Int) + 1 ≤ 4 := by omega
        have he0 : (0 : Int) ≤ (e : Int) := by omega
        have HLT := Lib.hid hlt; go_wp2_with fail
        refine (HCV.out ((e : Int) + 1) _ (by omega) (by omega) HBw.out).mono ?_
        rintro e1 w3 ⟨qa, qb, d1, d2, rfl, hx, hy, hb3⟩; have hxs := HX.out.size; have HEX := Lib.hid (ownsRow_mono hx hxs)
        have HXT := Lib.hid (ownsRow_mono hy hxs)
        have HX3 := Lib.hid hb3; clear hb3 hx hy hxs; unfold serVal
        go_upto_region 18 with (fail)
        obtain ⟨s, hs⟩ : ∃ s, s = Tt.withV ds ((e : Int) + 1) := ⟨_, rfl⟩
        have HSV := Lib.hid hs; have hsl := (Tt.with_len ds HSPN.out.2 ((e : Int) + 1)).1
        have hsl2 := (Tt.with_len ds HSPN.out.2 ((e : Int) + 1)).2
        rw [← hs] at hsl hsl2 HEX HXT
        rw [← hs]; obtain ⟨U, hU⟩ : ∃ U, U = w3.heap.size := ⟨_, rfl⟩
        obtain ⟨x, hw4⟩ : ∃ x, x = w3.alloc (.cells #[.int .i64 s.first, .int .i64 s.last, .int .i64 s.every, .int .i64 s.wd, .slice qa s.ex.length d1, .slice qb s.xt.length d2] 102) := ⟨_, rfl⟩
        rw [← hw4, ← hU]; have HU6 := Lib.hid (show SerQ U W1.heap.size s qa qb d1 d2 x from by rw [hw4, hU]; exact ⟨Blk.new w3 _ _, World.ownsRow.alloc HEX.out _, World.ownsRow.alloc HXT.out _⟩)
        have HX6 := Lib.hid (show Below wr.heap.size wr x from by rw [hw4]; exact HX3.out.trans ((below_box w3 _).mono HX3.out.size))
        have HTU := Lib.hid (show T ≠ U from by have := HQ.out.box.lt; have := HX3.out.size; omega)
        have HT6 := Lib.hid (HQ.out.made HX6.out)
        clear HQ hw4 hU hs HEX HXT HX3; obtain ⟨t, ht⟩ : ∃ t, t = Tt.prevK ds e := ⟨_, rfl⟩
        have HTV := Lib.hid ht; have htl := (Tt.prev_len ds HSPN.out.2 e).1
        have htl2 := (Tt.prev_len ds HSPN.out.2 e).2
        rw [← ht] at htl htl2 HT6
        clear ht; have u00 : x.cell? ⟨U, 0, none⟩ = some (.int .i64 s.first) := HU6.out.box.cell 0
        have u10 : x.cell? ⟨U, 1, none⟩ = some (.int .i64 s.last) := HU6.out.box.cell 1
        have u20 : x.cell? ⟨U, 2, none⟩ = some (.int .i64 s.every) := HU6.out.box.cell 2
        have u30 : x.cell? ⟨U, 3, none⟩ = some (.int .i64 s.wd) := HU6.out.box.cell 3
        have u40 : x.cell? ⟨U, 4, none⟩ = some (.slice qa s.ex.length d1) := HU6.out.box.cell 4
        have u50 : x.cell? ⟨U, 5, none⟩ = some (.slice qb s.xt.length d2) := HU6.out.box.cell 5
        have t00 : x.cell? ⟨T, 0, none⟩ = some (.int .i64 t.first) := HT6.out.box.cell 0
        have t10 : x.cell? ⟨T, 1, none⟩ = some (.int .i64 t.last) := HT6.out.box.cell 1
        have t20 : x.cell? ⟨T, 2, none⟩ = some (.int .i64 t.every) := HT6.out.box.cell 2
        have t30 : x.cell? ⟨T, 3, none⟩ = some (.int .i64 t.wd) := HT6.out.box.cell 3
        have t40 : x.cell? ⟨T, 4, none⟩ = some (.slice p t.ex.length cc) := HT6.out.box.cell 4
        have t50 : x.cell? ⟨T, 5, none⟩ = some (.slice p' t.xt.length cc') := HT6.out.box.cell 5
        have f00 := HT6.out.box.frozen 0; have f10 := HT6.out.box.frozen 1; have f20 := HT6.out.box.frozen 2; have f30 := HT6.out.box.frozen 3; have f40 := HT6.out.box.frozen 4; have f50 := HT6.out.box.frozen 5; cases e with
        | zero =>
          have HB2 := Lib.hid (show s = Tt.prevK ds (0 + 1) from by rw [HSV.out]; rfl)
          go_wp2_with fail
          obtain ⟨Y, hY, hBk, hE⟩ := fill6R (w0 := W1) HT6.out.box rfl (HX.out.trans (HX6.out.mono HX.out.size)) (HQT.out) (.int .i64 s.first) (.int .i64 s.last) (.int .i64 s.every) (.int .i64 s.wd) (.slice qa s.ex.length d1) (.slice qb s.xt.length d2)
          have hX := row_setAll (by decide) [.int .i64 s.first, .int .i64 s.last, .int .i64 s.every, .int .i64 s.wd, .slice qa s.ex.length d1, .slice qb s.xt.length d2] 0 x _ HU6.out.ex HT6.out.box
          have hX2 := row_setAll (by decide) [.int .i64 s.first, .int .i64 s.last, .int .i64 s.every, .int .i64 s.wd, .slice qa s.ex.length d1, .slice qb s.xt.length d2] 0 x _ HU6.out.xt HT6.out.box
          rw [show setAll x T 0 [.int .i64 s.first, .int .i64 s.last, .int .i64 s.every, .int .i64 s.wd, .slice qa s.ex.length d1, .slice qb s.xt.length d2] = Y from by rw [hY]; rfl] at hX hX2
          rw [← hY]; have HR2 := Lib.hid (show SerQ T W1.heap.size (Tt.prevK ds (0 + 1)) qa qb d1 d2 Y from by rw [← HB2.out]; exact ⟨hBk, hX, hX2⟩)
          have HE2 := Lib.hid hE; clear hY hX hX2 hBk hE u00 t00 f00 u10 t10 f10 u20 t20 f20 u30 t30 f30 u40 t40 f40 u50 t50 f50; go_wp2_with fail
          go_roundw
          case rel => exact ⟨0 + 1, qa, qb, d1, d2, by go_num, by have := HLT.out; omega, HR2, HE2⟩
          case measure => simp [intOf]; try omega
        | succ e =>
          have hne1 : (((e + 1 : Nat) : Int) + 1 == 1) = false := beq_eq_false_iff_ne.2 (by omega)
          have hne2 : (((e : Int) + 1) + 1 == 1) = false := beq_eq_false_iff_ne.2 (by omega)
          have hne3 : ¬ ((e : Int) + 1 + 1 = 1) := by omega
          have hne4 : ¬ ((e : Int) + 1 = 0) := by omega
          have HBK := Lib.hid (show Tt.prevK ds (e + 1 + 1) = if (s.ex.length : Int) + s.xt.length < (t.ex.length : Int) + t.xt.length then s else t from by rw [HTV.out, HSV.out]; show Tt.bestK ds (e + 1) = _; rw [Tt.bestK]; rw [show (((e + 1 : Nat) : Int) + 1) = (e : Int) + 2 by omega]; rfl)
          by_cases hlt2 : (s.ex.length : Int) + s.xt.length < (t.ex.length : Int) + t.xt.length
          rotate_left
          · have HB2 := Lib.hid (show t = Tt.prevK ds (e + 1 + 1) from by rw [HBK.out, if_neg hlt2])
            have HR2 := Lib.hid (show SerQ T W1.heap.size (Tt.prevK ds (e + 1 + 1)) p p' cc cc' x from by rw [← HB2.out]; exact HT6.out)
            go_wp2_with fail
            go_roundw
            case rel => exact ⟨e + 1 + 1, p, p', cc, cc', by go_num, by have := HLT.out; omega, HR2, Lib.hid (HX.out.trans (HX6.out.mono HX.out.size))⟩
            case measure => simp [intOf]; omega
          · have HB2 := Lib.hid (show s = Tt.prevK ds (e + 1 + 1) from by rw [HBK.out]; exact (if_pos hlt2).symm)
            go_wp2_with fail
            obtain ⟨Y, hY, hBk, hE⟩ := fill6R (w0 := W1) HT6.out.box rfl (HX.out.trans (HX6.out.mono HX.out.size)) (HQT.out) (.int .i64 s.first) (.int .i64 s.last) (.int .i64 s.every) (.int .i64 s.wd) (.slice qa s.ex.length d1) (.slice qb s.xt.length d2)
            have hX := row_setAll (by decide) [.int .i64 s.first, .int .i64 s.last, .int .i64 s.every, .int .i64 s.wd, .slice qa s.ex.length d1, .slice qb s.xt.length d2] 0 x _ HU6.out.ex HT6.out.box
            have hX2 := row_setAll (by decide) [.int .i64 s.first, .int .i64 s.last, .int .i64 s.every, .int .i64 s.wd, .slice qa s.ex.length d1, .slice qb s.xt.length d2] 0 x _ HU6.out.xt HT6.out.box
            rw [show setAll x T 0 [.int .i64 s.first, .int .i64 s.last, .int .i64 s.every, .int .i64 s.wd, .slice qa s.ex.length d1, .slice qb s.xt.length d2] = Y from by rw [hY]; rfl] at hX hX2
            rw [← hY]; have HR2 := Lib.hid (show SerQ T W1.heap.size (Tt.prevK ds (e + 1 + 1)) qa qb d1 d2 Y from by rw [← HB2.out]; exact ⟨hBk, hX, hX2⟩)
            have HE2 := Lib.hid hE; clear hY hX hX2 hBk hE u00 t00 f00 u10 t10 f10 u20 t20 f20 u30 t30 f30 u40 t40 f40 u50 t50 f50; go_wp2_with fail
            go_roundw
            case rel => exact ⟨e + 1 + 1, qa, qb, d1, d2, by go_num, by have := HLT.out; omega, HR2, HE2⟩
            case measure => simp [intOf]; try omega
end Go.Proofs.YtcomifbfldoeiaaGreatDoor
namespace Tt
theorem daysK_mem (t : Trm) (x : Tim) : ∀ (k : Nat) (d : Int), d ∈ daysK t x k → ∃ j : Nat, j < k ∧ d = atD t ((j : Int) + 1) x.day ∧ atB t ((j : Int) + 1) x.day = true
  | 0, d, h => by cases h
  | k + 1, d, h => by
    rw [daysK] at h
    split at h
    · rename_i hb
      rcases List.mem_append.1 h with h | h
      · obtain ⟨j, h1, h2⟩ := daysK_mem t x k d h
        exact ⟨j, by omega, h2⟩
      · rw [List.mem_singleton] at h
        exact ⟨k, by omega, h, hb.2⟩
    · obtain ⟨j, h1, h2⟩ := daysK_mem t x k d h
      exact ⟨j, by omega, h2⟩
theorem atB_parts {t : Trm} {k d : Int} (h : atB t k d = true) : trmV t = 0 ∧ 1 ≤ k ∧ k ≤ t.weeks ∧ 0 ≤ d ∧ d < 7 := by
  unfold atB at h
  rw [Bool.and_eq_true] at h
  exact of_decide_eq_true h.1
theorem daysK_bd (t : Trm) (x : Tim) {d : Int} (h : d ∈ daysK t x 20) : 0 ≤ d ∧ d ≤ 36524 ∧ t.first + x.day ≤ d ∧ d ≤ t.first + x.day + 133 := by
  obtain ⟨j, h1, h2, h3⟩ := daysK_mem t x 20 d h
  obtain ⟨g1, g2, g3, g4, g5⟩ := atB_parts h3
  obtain ⟨f0, f1, f2, f3, f4, f5⟩ := trmV_ok g1
  unfold atD at h2
  unfold lastT at f4
  omega
theorem daysK_pair (t : Trm) (x : Tim) : ∀ k : Nat, (daysK t x k).Pairwise (· < ·)
  | 0 => List.Pairwise.nil
  | k + 1 => by
    have ih := daysK_pair t x k; rw [daysK]
    split
    · rw [List.pairwise_append]
      refine ⟨ih, List.pairwise_singleton _ _, ?_⟩
      intro a ha b hb; rw [List.mem_singleton] at hb
      obtain ⟨j, h1, h2, h3⟩ := daysK_mem t x k a ha
      subst hb; rw [h2]
      unfold atD
      omega
    · exact ih
theorem daysK_asc (t : Trm) (x : Tim) (k : Nat) : AscD (daysK t x k) := by
  intro j a b ha hb; have h := List.pairwise_iff_getElem.1 (daysK_pair t x k)
  obtain ⟨a1, a2⟩ := List.getElem?_eq_some_iff.1 ha
  obtain ⟨b1, b2⟩ := List.getElem?_eq_some_iff.1 hb
  have := h j (j + 1) a1 b1 (by omega)
  rw [a2, b2] at this
  exact this
theorem daysK_ok (t : Trm) (x : Tim) (h : daysK t x 20 ≠ []) : DsOk (daysK t x 20) := by
  have hp : 0 < (daysK t x 20).length := List.length_pos_iff.2 h
  have hl := daysK_len t x 20; have m1 : fstD (daysK t x 20) ∈ daysK t x 20 := by
    unfold fstD
    cases hd : daysK t x 20 with
    | nil => exact absurd hd h
    | cons a r => exact List.mem_cons_self
  have m2 : lstD (daysK t x 20) ∈ daysK t x 20 := by
    unfold lstD
    rw [List.getLastD_eq_getLast?, List.getLast?_eq_some_getLast h]
    exact List.getLast_mem h
  have b1 := daysK_bd t x m1; have b2 := daysK_bd t x m2; refine ⟨h, fun d hd => by have := daysK_bd t x hd; omega, ?_, by omega, by omega⟩
  have hq := daysK_pair t x 20; obtain ⟨a, r, hd⟩ : ∃ a r, daysK t x 20 = a :: r := by
    cases hd : daysK t x 20 with
    | nil => exact absurd hd h
    | cons a r => exact ⟨a, r, rfl⟩
  rw [hd] at hq m2 ⊢
  have h1 := List.pairwise_cons.1 hq; show a ≤ _
  rcases List.mem_cons.1 m2 with e | e
  · omega
  · have := h1.1 _ e; omega
/-- The lowest of n bits from k on. -/
def lowB (w : Int) : Nat → Nat → Nat
  | 0, k => k
  | n + 1, k => if bit w (k : Nat) = true then k else lowB w n (k + 1)
theorem lowB_end (w : Int) (k : Nat) (hk : k < 20) (h : bit w (k : Nat) = true) : lowB w (20 - k) k = k := by
  obtain ⟨n, hn⟩ : ∃ n, 20 - k = n + 1 := ⟨20 - k - 1, by omega⟩
  rw [hn, lowB, if_pos h]
theorem lowB_step (w : Int) (k : Nat) (hk : k < 20) (h : bit w (k : Nat) = false) : lowB w (20 - k) k = lowB w (20 - (k + 1)) (k + 1) := by
  obtain ⟨n, hn⟩ : ∃ n, 20 - k = n + 1 := ⟨20 - k - 1, by omega⟩
  rw [hn, lowB, if_neg (by rw [h]; decide), show 20 - (k + 1) = n by omega]
/-- Some week is there. -/
theorem weeks_some {w : Int} (h : weeksB w 20 = true) : ¬ ∀ i : Nat, i < 20 → bit w (i : Nat) = false := by
  intro hall; unfold weeksB at h
  have h := of_decide_eq_true h; obtain ⟨-, -, h1, h2⟩ := h; have h2 : w < 1048576 := h2
  obtain ⟨m, rfl⟩ : ∃ m : Nat, w = m := ⟨w.toNat, by omega⟩
  obtain ⟨i, hi⟩ := Nat.exists_testBit_of_ne_zero (show m ≠ 0 by omega)
  have hi2 : i < 20 := by
    apply Decidable.byContradiction
    intro hc; have : m < 2 ^ i := Nat.lt_of_lt_of_le (show m < 2 ^ 20 by omega) (Nat.pow_le_pow_right (by omega) (by omega))
    rw [Nat.testBit_lt_two_pow this] at hi
    cases hi
  have hf := hall i hi2; unfold bit at hf
  have hf := of_decide_eq_false hf; rw [Nat.testBit_eq_decide_div_mod_eq] at hi
  have hi := of_decide_eq_true hi; apply hf
  rw [show ((i : Nat) : Int).toNat = i from Int.toNat_natCast i]
  rw [show ((m : Int) / 2 ^ i % 2) = ((m / 2 ^ i % 2 : Nat) : Int) by simp, hi]
  rfl
theorem fits_parts {g : Grd} {n : Int} {x : Tim} (h : fitsV g n x = 0) : soundB x = true ∧ x.start + x.len ≤ g.slots := by
  unfold fitsV at h
  split at h
  · split at h
    · rename_i h2; exact ⟨h2.1, h2.2.2.2⟩
    · cases h
  · cases h
theorem grid_parts {g : Grd} (h : gridV g = 0) : 1 ≤ g.slots ∧ g.slots ≤ 24 ∧ 0 ≤ g.begin_ ∧ g.begin_ < 1440 ∧ 5 ≤ g.mins ∧ g.mins ≤ 120 := by
  unfold gridV at h
  split at h
  · cases h
  · omega
theorem mul_bd {s m : Int} (h0 : 0 ≤ s) (h1 : s ≤ 24) (h2 : 5 ≤ m) (h3 : m ≤ 120) : 0 ≤ s * m ∧ s * m ≤ 2880 := by
  constructor
  · exact Int.mul_nonneg h0 (by omega)
  · calc s * m ≤ 24 * m := Int.mul_le_mul_of_nonneg_right h1 (by omega)
      _ ≤ 24 * 120 := Int.mul_le_mul_of_nonneg_left h3 (by omega)
theorem weeks_bd {w : Int} (h : weeksB w 20 = true) : 1 ≤ w ∧ w < 1048576 := by
  unfold weeksB at h
  have h := of_decide_eq_true h; exact ⟨h.2.2.1, h.2.2.2⟩
end Tt
namespace Go.Proofs.YtcomifbfldoeiaaGreatDoor
open Go.RowKit

structure Ses where
  cls : ByteArray
  tim : Tt.Tim
  room : ByteArray
def sesCells (s : Ses) : Array Value := #[.string s.cls, .int .i64 s.tim.weeks, .int .i64 s.tim.day, .int .i64 s.tim.start, .int .i64 s.tim.len, .string s.room]
def sesVal (s : Ses) : Value := .agg (sesCells s)
def evN : Ev := ⟨⟨#[]⟩, 0, false, ⟨0, 0, 0, 0, [], []⟩, 0, 0, ⟨#[]⟩, ⟨#[]⟩⟩
/-- Is a room none, or a code? -/
def roomB (r : ByteArray) : Bool := r.data.toList.isEmpty || Tt.code r.data.toList
/-- Is there an event of a session? -/
def evB (g : Tt.Grd) (t : Tt.Trm) (s : Ses) : Bool := decide (Tt.gridV g = 0) && (decide (Tt.trmV t = 0) && (Tt.code s.cls.data.toList && (roomB s.room && (decide (Tt.fitsV g t.weeks s.tim = 0) && !decide (Tt.daysK t s.tim 20 = [])))))
def uidOf (s : Ses) : ByteArray := s.cls ++ ⟨#[64]⟩ ++ ⟨(Lib.decDigits (Tt.lowB s.tim.weeks 20 0 + 1)).toArray⟩
/-- The event of a session. -/
def evIs (g : Tt.Grd) (t : Tt.Trm) (s : Ses) (q : Int) : Ev := ⟨uidOf s, q, false, Tt.ofV (Tt.daysK t s.tim 20), g.begin_ + s.tim.start * g.mins, s.tim.len * g.mins, s.cls, s.room⟩
def evOf (g : Tt.Grd) (t : Tt.Trm) (s : Ses) (q : Int) : Ev := if evB g t s = true then evIs g t s q else evN
/-- An event that is handed back, with a word. -/
def RetE (e : Ev) (b : Bool) (w : World) (x : Ending) (w' : World) : Prop := ∃ (p p' : Option Addr) (c c' : Nat), x = .returned (.tuple #[evVal e (.slice p e.days.ex.length c) (.slice p' e.days.xt.length c'), .bool b]) ∧ RowI w.heap.size w' (.slice p e.days.ex.length c) e.days.ex ∧ RowI w.heap.size w' (.slice p' e.days.xt.length c') e.days.xt ∧ Below w.heap.size w w'
theorem fill13 {g : Nat} {cs : Array Value} {w0 w : World} (h : Blk g cs 104 w) (hc : cs.size = 13) (hb : Below w0.heap.size w0 w) (hg : w0.heap.size ≤ g) (u0 u1 u2 u3 u4 u5 u6 u7 u8 u9 u10 u11 u12 : Value) : ∃ Y, Y = setAll w g 0 [u0, u1, u2, u3, u4, u5, u6, u7, u8, u9, u10, u11, u12] ∧ Blk g #[u0, u1, u2, u3, u4, u5, u6, u7, u8, u9, u10, u11, u12] 104 Y ∧ Below w0.heap.size w0 Y := by
  refine ⟨_, rfl, ?_, below_setAll hg _ 0 _ hb⟩
  have := Blk.puts (g := g) (ty := 104) [u0, u1, u2, u3, u4, u5, u6, u7, u8, u9, u10, u11, u12] [] cs.toList [] w (by simpa using h) (by simpa using hc)
  simpa using this
end Go.Proofs.YtcomifbfldoeiaaGreatDoor
namespace Tt
theorem lists_len (ds : List Int) (s : Ser) : ∀ k, (exK ds s k).length + (xtK ds s k).length ≤ k
  | 0 => Nat.le_refl _
  | k + 1 => by
    have ih := lists_len ds s k; rw [exK, xtK]
    cases hr : regB s (s.first + k) with
    | true =>
      rw [if_neg (show ¬ (true = false ∧ _) from fun h => by cases h.1)]
      split
      · rw [List.length_append]; simp; omega
      · omega
    | false =>
      rw [if_neg (show ¬ (false = true ∧ _) from fun h => by cases h.1)]
      split
      · rw [List.length_append]; simp; omega
      · omega
theorem mem_exK (ds : List Int) (s : Ser) (d : Int) : ∀ k, d ∈ exK ds s k ↔ s.first ≤ d ∧ d < s.first + k ∧ regB s d = true ∧ ¬ d ∈ ds
  | 0 => by simp [exK]; intro h1 h2; omega
  | k + 1 => by
    have ih := mem_exK ds s d k; rw [exK]
    split
    · rename_i h
      rw [List.mem_append, ih, List.mem_singleton]
      constructor
      · rintro (⟨h1, h2, h3⟩ | rfl)
        · exact ⟨h1, by omega, h3⟩
        · exact ⟨by omega, by omega, h⟩
      · rintro ⟨h1, h2, h3⟩; by_cases hd : d = s.first + k
        · exact .inr hd
        · exact .inl ⟨h1, by omega, h3⟩
    · rename_i h
      rw [ih]
      constructor
      · rintro ⟨h1, h2, h3⟩; exact ⟨h1, by omega, h3⟩
      · rintro ⟨h1, h2, h3⟩; refine ⟨h1, ?_, h3⟩
        by_cases hd : d = s.first + k
        · subst hd; exact absurd h3 h
        · omega
theorem mem_xtK (ds : List Int) (s : Ser) (d : Int) : ∀ k, d ∈ xtK ds s k ↔ s.first ≤ d ∧ d < s.first + k ∧ regB s d = false ∧ d ∈ ds
  | 0 => by simp [xtK]; intro h1 h2; omega
  | k + 1 => by
    have ih := mem_xtK ds s d k; rw [xtK]
    split
    · rename_i h
      rw [List.mem_append, ih, List.mem_singleton]
      constructor
      · rintro (⟨h1, h2, h3⟩ | rfl)
        · exact ⟨h1, by omega, h3⟩
        · exact ⟨by omega, by omega, h⟩
      · rintro ⟨h1, h2, h3⟩; by_cases hd : d = s.first + k
        · exact .inr hd
        · exact .inl ⟨h1, by omega, h3⟩
    · rename_i h
      rw [ih]
      constructor
      · rintro ⟨h1, h2, h3⟩; exact ⟨h1, by omega, h3⟩
      · rintro ⟨h1, h2, h3⟩; refine ⟨h1, ?_, h3⟩
        by_cases hd : d = s.first + k
        · subst hd; exact absurd h3 h
        · omega
theorem exK_sorted (ds : List Int) (s : Ser) : ∀ k, (exK ds s k).Pairwise (· < ·)
  | 0 => List.Pairwise.nil
  | k + 1 => by
    rw [exK]
    split
    · rw [List.pairwise_append]
      refine ⟨exK_sorted ds s k, List.pairwise_singleton _ _, fun a ha b hb => ?_⟩
      have := ((mem_exK ds s a k).1 ha).2.1
      rw [List.mem_singleton] at hb
      omega
    · exact exK_sorted ds s k
theorem xtK_sorted (ds : List Int) (s : Ser) : ∀ k, (xtK ds s k).Pairwise (· < ·)
  | 0 => List.Pairwise.nil
  | k + 1 => by
    rw [xtK]
    split
    · rw [List.pairwise_append]
      refine ⟨xtK_sorted ds s k, List.pairwise_singleton _ _, fun a ha b hb => ?_⟩
      have := ((mem_xtK ds s a k).1 ha).2.1
      rw [List.mem_singleton] at hb
      omega
    · exact xtK_sorted ds s k
/-- A list that ascends behind a day, and whose days fit, has no fault. -/
theorem listV_zero_of (bad : Int) (ok : Int → Bool) : ∀ (l : List Int) (p : Option Int), l.Pairwise (· < ·) → (∀ d ∈ l, ok d = true) → (∀ q, p = some q → ∀ d ∈ l, q < d) → listV bad ok p l = 0
  | [], _, _, _, _ => by unfold listV; rfl
  | d :: r, p, hs, ho, hp => by
    rw [listV, if_neg, if_pos (ho d (by simp))]
    · rw [List.pairwise_cons] at hs
      exact listV_zero_of bad ok r (some d) hs.2 (fun x hx => ho x (by simp [hx])) (fun q hq x hx => by cases hq; exact hs.1 x hx)
    · cases p with
      | none => simp [late]
      | some q => have := hp q rfl d (by simp); simp [late]; omega
theorem in_span {ds : List Int} (hs : ds.Pairwise (· < ·)) {d : Int} (h : d ∈ ds) : fstD ds ≤ d ∧ d ≤ lstD ds := by
  constructor
  · cases ds with
    | nil => cases h
    | cons a r =>
      show a ≤ d
      rw [List.pairwise_cons] at hs
      rcases List.mem_cons.1 h with e | e
      · omega
      · have := hs.1 d e; omega
  · unfold lstD
    rw [List.getLastD_eq_getLast?]
    cases hl : ds.getLast? with
    | none => rw [List.getLast?_eq_none_iff] at hl; subst hl; cases h
    | some z =>
      show d ≤ z
      obtain ⟨ys, rfl⟩ := List.getLast?_eq_some_iff.1 hl
      rw [List.pairwise_append] at hs
      rcases List.mem_append.1 h with e | e
      · have := hs.2.2 d e z (by simp); omega
      · rw [List.mem_singleton] at e; omega
/-- A series of ascending days is valid, and has those days. -/
theorem serK_ok {ds : List Int} (h : DsOk ds) (hs : ds.Pairwise (· < ·)) (hsp : spanN ds ≤ 140) (e m : Int) (he0 : 1 ≤ e) (he1 : e ≤ 4) (hm0 : 0 ≤ m) (hm1 : m ≤ 127) : serV (serK ds e m (spanN ds)) = 0 ∧ serDays (serK ds e m (spanN ds)) = ds := by
  obtain ⟨b1, b2, b3, b4⟩ := h.bd
  have hle := h.le; have hl := h.sp; have hspn := h.span.1; have hlen := lists_len ds (headS ds e m) (spanN ds)
  have hz : serV (serK ds e m (spanN ds)) = 0 := by
    rw [serV_zero]
    refine ⟨⟨b1, b2, b3, b4, hle, hl, he0, he1, hm0, hm1, ?_⟩, ?_, ?_⟩
    · show ((exK ds (headS ds e m) (spanN ds)).length : Int) + (xtK ds (headS ds e m) (spanN ds)).length ≤ 140
      omega
    · refine listV_zero_of 12 _ _ none (exK_sorted ds _ _) (fun d hd => ?_) (fun q hq => by cases hq)
      exact ((mem_exK ds _ d _).1 hd).2.2.1
    · refine listV_zero_of 11 _ _ none (xtK_sorted ds _ _) (fun d hd => ?_) (fun q hq => by cases hq)
      obtain ⟨h1, h2, h3, h4⟩ := (mem_xtK ds _ d _).1 hd
      have h5 := in_span hs h4; unfold extB
      have h3 : regB (serK ds e m (spanN ds)) d = false := h3
      rw [h3]
      simp
      exact h5
  refine ⟨hz, ?_⟩
  refine sorted_ext _ _ (serDays_sorted _) hs (fun d => ?_)
  unfold serDays
  rw [if_neg (by simp [hz]), List.mem_filter]
  unfold span inB
  rw [mem_daysFrom]
  have hreg : regB (serK ds e m (spanN ds)) d = regB (headS ds e m) d := rfl
  have hx := mem_exK ds (headS ds e m) d (spanN ds)
  have hy := mem_xtK ds (headS ds e m) d (spanN ds)
  rw [hreg]
  have e1 : (serK ds e m (spanN ds)).ex = exK ds (headS ds e m) (spanN ds) := rfl
  have e2 : (serK ds e m (spanN ds)).xt = xtK ds (headS ds e m) (spanN ds) := rfl
  have e3 : (serK ds e m (spanN ds)).first = fstD ds := rfl
  have e4 : (serK ds e m (spanN ds)).last = lstD ds := rfl
  have e5 : (headS ds e m).first = fstD ds := rfl
  rw [e1, e2, e3, e4]
  rw [e5] at hx hy
  simp only [Bool.or_eq_true, Bool.and_eq_true, Bool.not_eq_true', decide_eq_true_eq, decide_eq_false_iff_not]
  rw [hx, hy]
  constructor
  · rintro ⟨⟨h1, h2⟩, ⟨h3, h4⟩ | ⟨_, _, _, h4⟩⟩
    · apply Decidable.byContradiction
      intro hc; exact h4 ⟨h1, by omega, h3, hc⟩
    · exact h4
  · intro hd; have h5 := in_span hs hd
    refine ⟨⟨h5.1, by omega⟩, ?_⟩
    cases hr : regB (headS ds e m) d with
    | true => exact .inl ⟨rfl, fun hc => hc.2.2.2 hd⟩
    | false => exact .inr ⟨h5.1, by omega, rfl, hd⟩
theorem best_with (ds : List Int) : ∀ k : Nat, ∃ e : Int, 1 ≤ e ∧ e ≤ (k : Int) + 1 ∧ bestK ds k = withV ds e
  | 0 => ⟨1, by omega, by omega, rfl⟩
  | k + 1 => by
    rw [bestK]
    split
    · exact ⟨(k : Int) + 2, by omega, by omega, rfl⟩
    · obtain ⟨e, h1, h2, h3⟩ := best_with ds k
      exact ⟨e, h1, by omega, h3⟩
/-- The series of ascending days is valid, and has those days. -/
theorem ofV_ok {ds : List Int} (h : DsOk ds) (hs : ds.Pairwise (· < ·)) (hsp : spanN ds ≤ 140) : serV (ofV ds) = 0 ∧ serDays (ofV ds) = ds := by
  obtain ⟨e, h1, h2, h3⟩ := best_with ds 3
  unfold ofV
  rw [h3]
  have := wdK_lt ds e 7 (by omega)
  exact serK_ok h hs hsp e _ h1 (by omega) (by omega) (by omega)
end Tt
