/- The reference's series of any ascending days: Of (141). -/
import Derived.Test.YtageielcdebjlaaGreatDoorOfR
import Derived.Deep.RegionWith
namespace Tt
def excN (s : Ser) : Int := (s.ex.length : Int) + s.xt.length
/-- The best series of days, for at most k + 1 weeks. -/
def bestK (ds : List Int) : Nat → Ser
  | 0 => withV ds 1
  | k + 1 => if excN (withV ds ((k : Int) + 2)) < excN (bestK ds k) then withV ds ((k : Int) + 2) else bestK ds k
def ofV (ds : List Int) : Ser := bestK ds 3
theorem with_len (ds : List Int) (h : spanN ds ≤ 141) (e : Int) : (withV ds e).ex.length ≤ 141 ∧ (withV ds e).xt.length ≤ 141 := by
  have := exK_len ds (headS ds e (wdK ds e 7)) (spanN ds)
  exact ⟨Nat.le_trans this.1 h, Nat.le_trans this.2 h⟩
theorem best_len (ds : List Int) (h : spanN ds ≤ 141) : ∀ k, (bestK ds k).ex.length ≤ 141 ∧ (bestK ds k).xt.length ≤ 141
  | 0 => with_len ds h 1
  | k + 1 => by
    rw [bestK]
    split
    · exact with_len ds h _
    · exact best_len ds h k
def AscD (ds : List Int) : Prop := ∀ (k : Nat) (a b : Int), ds[k]? = some a → ds[k + 1]? = some b → a < b
end Tt
namespace Go.Proofs.YtageielcdebjlaaGreatDoor
open Go.RowKit

/-- A series in a box; its two lists in rows of one's own. -/
structure SerQ (T lo : Nat) (s : Tt.Ser) (p p' : Option Addr) (c c' : Nat) (w : World) : Prop where
  box : Blk T #[.int .i64 s.first, .int .i64 s.last, .int .i64 s.every, .int .i64 s.wd, .slice p s.ex.length c, .slice p' s.xt.length c'] 80 w
  ex : RowI lo w (.slice p s.ex.length c) s.ex
  xt : RowI lo w (.slice p' s.xt.length c') s.xt
theorem SerQ.made {T lo : Nat} {s : Tt.Ser} {p p' : Option Addr} {c c' : Nat} {w w' : World} (h : SerQ T lo s p p' c c' w) (hb : Below w.heap.size w w') : SerQ T lo s p p' c c' w' :=
  ⟨h.box.below hb h.box.lt, ownsRow_below h.ex hb, ownsRow_below h.xt hb⟩
/-- A series that is handed back, with a code. -/
def RetC (s : Tt.Ser) (cd : Int) (w : World) (x : Ending) (w' : World) : Prop := ∃ (p p' : Option Addr) (c c' : Nat), x = .returned (.tuple #[serVal s (.slice p s.ex.length c) (.slice p' s.xt.length c'), .int .i64 cd]) ∧ RowI w.heap.size w' (.slice p s.ex.length c) s.ex ∧ RowI w.heap.size w' (.slice p' s.xt.length c') s.xt ∧ Below w.heap.size w w'
set_option maxHeartbeats 8000000 in
set_option maxRecDepth 100000 in
theorem of141 (ds : List Int) (ao : Option Addr) (c B : Nat) (w : World) (hd : Tt.DsOk ds) (has : Tt.AscD ds) (hB : B ≤ w.heap.size) (hI : Ints B w ao ds) : Calls Tryz.prog 141 #[.slice ao ds.length c] w (RetC (Tt.ofV ds) 0 w) := by
  obtain ⟨f0, f1, l0, l1⟩ := hd.bd
  have hfl := hd.le; have hfs := hd.sp; have HSPN := Lib.hid hd.span
  obtain ⟨b, o, ha, hb, hc0⟩ := hI.form hd.pos
  subst ha; have h1 := hc0 0 _ hd.first
  have h2 := hc0 _ _ hd.last
  rw [Nat.add_zero] at h1
  have HI := Lib.hid hI; have HDD := Lib.hid hd; have hdl := hd.len; have HC0 := Lib.hid hc0; have HAS := Lib.hid has; obtain ⟨n, hn⟩ : ∃ n, n = ds.length := ⟨_, rfl⟩
  have hnp : 0 < n := by rw [hn]; exact hd.pos
  rw [← hn] at hdl h2 ⊢
  have HN := Lib.hid hn; obtain ⟨j, hj⟩ : ∃ j, n = j + 1 := ⟨n - 1, by omega⟩
  rw [hj, Nat.add_sub_cancel] at h2
  obtain ⟨F, hF⟩ : ∃ F, F = Tt.fstD ds := ⟨_, rfl⟩
  obtain ⟨L, hL⟩ : ∃ L, L = Tt.lstD ds := ⟨_, rfl⟩
  rw [← hF, ← hL] at hfl hfs
  rw [← hF] at f0 f1 h1
  rw [← hL] at l0 l1 h2
  have hj0 : (0 : Int) ≤ (j : Int) := by omega
  have hj1 : (j : Int) < (j : Int) + 1 := by omega
  have hjz : (0 : Int) < (j : Int) + 1 := by omega
  have hjm : j ≤ 1000000 := by omega
  have hbw : b < w.heap.size := by omega
  have HBB := Lib.hid hB; have HG1 := Lib.hid h1; have HG2 := Lib.hid h2; subst hj; have hneb : ((j : Int) + 1 == 0) = false := beq_eq_false_iff_ne.2 (by omega)
  obtain ⟨R, hR⟩ : ∃ R, R = w.heap.size := ⟨_, rfl⟩
  obtain ⟨W0, hW0⟩ : ∃ W0, W0 = w.alloc (.cells #[.int .i64 0, .int .i64 0, .int .i64 0, .int .i64 0, .slice none 0 0, .slice none 0 0] 80) := ⟨_, rfl⟩
  have HB0 := Lib.hid (show Below w.heap.size w W0 from by rw [hW0]; exact below_box w _)
  have HR0 := Lib.hid (show Blk R #[.int .i64 0, .int .i64 0, .int .i64 0, .int .i64 0, .slice none 0 0, .slice none 0 0] 80 W0 from by rw [hW0, hR]; exact Blk.new w _ _)
  have HRW := Lib.hid hR; clear hd has hI hn hF hL hc0 h1 h2; go_enter Tryz.func141, Tryz.ntmps141
  go_upto_region 1 with (fail)
  rw [← hW0, ← hR]; clear hW0 hR; go_wp2_with fail
  go_loopw [4] (fun iv wr => ∃ k : Nat, iv = .int .i64 k ∧ k ≤ j + 1 ∧ Hid (Below w.heap.size w wr) ∧ Hid (Blk R #[.int .i64 0, .int .i64 0, .int .i64 0, .int .i64 0, .slice none 0 0, .slice none 0 0] 80 wr)) (fun iv _ => j + 1 - (intOf iv).toNat)
  case atStart => exact ⟨0, rfl, Nat.zero_le _, HB0, HR0⟩
  case round =>
    obtain ⟨k, rfl, hk, HBr, HRr0⟩ := hrel; by_cases hlt : k < j + 1
    · obtain ⟨d, hdk⟩ : ∃ d, ds[k]? = some d := ⟨_, List.getElem?_eq_getElem (by have := HN.out; omega)⟩
      have hki : (k : Int) < (j : Int) + 1 := by omega
      have hk00 : (0 : Int) ≤ (k : Int) := by omega
      have hcd := (HBr.out.cell (p := ⟨b, o + k, none⟩) hbw).trans (HC0.out k d hdk)
      have HD := Lib.hid (show Tt.isD d = true from (Tt.isD_iff _).2 (HDD.out.d d (List.mem_of_getElem? hdk)))
      cases k with
      | zero =>
        have hcd : wr.cell? ⟨b, o, none⟩ = some (.int .i64 d) := by simpa using hcd
        go_wp2_with fail
        refine (isD215 _ _).mono ?_
        rintro e w1 ⟨rfl, hx⟩; rw [hx, HD.out]
        clear hx w1; go_wp2_with fail
        go_quiet (fail)
        go_wp2_with fail
        go_roundw
        case rel => exact ⟨1, by go_num, by omega, Lib.hid (HBr.out.trans ⟨rfl, rfl, rfl, Nat.le_refl _, fun k hk => rfl⟩), HRr0⟩
        case measure => simp [intOf]
      | succ k =>
        obtain ⟨d2, hd2⟩ : ∃ d2, ds[k]? = some d2 := ⟨_, List.getElem?_eq_getElem (by have := HN.out; omega)⟩
        have hce := (HBr.out.cell (p := ⟨b, o + k, none⟩) hbw).trans (HC0.out k d2 hd2)
        have hasc : ¬ d ≤ d2 := by have := HAS.out k d2 d hd2 hdk; omega
        have hkn : ((k : Int) + 1).toNat = k + 1 := by omega
        have hk1 : (0 : Int) ≤ (k : Int) + 1 := by omega
        have hk2 : (k : Int) < (j : Int) + 1 := by omega
        have hk3 : (0 : Int) < (k : Int) + 1 := by omega
        have hk4 : (0 : Int) ≤ (k : Int) := by omega
        have hki2 : (k : Int) + 1 < (j : Int) + 1 := by omega
        clear hd2 hdk; go_wp2_with fail
        refine (isD215 _ _).mono ?_
        rintro e w1 ⟨rfl, hx⟩; rw [hx, HD.out]
        clear hx w1; go_wp2_with fail
        go_quiet (fail)
        go_wp2_with fail
        go_roundw
        case rel => exact ⟨k + 1 + 1, by go_num, by omega, Lib.hid (HBr.out.trans ⟨rfl, rfl, rfl, Nat.le_refl _, fun k hk => rfl⟩), HRr0⟩
        case measure => simp [intOf]; omega
    · have hki : ¬ (k : Int) < (j : Int) + 1 := by omega
      have g1 := (HBr.out.cell (p := ⟨b, o, none⟩) hbw).trans HG1.out
      have g2 := (HBr.out.cell (p := ⟨b, o + j, none⟩) hbw).trans HG2.out
      have hfs2 : ¬ F + 140 < L := by omega
      go_upto_region 10 with (fail)
      go_quiet (fail)
      obtain ⟨W1, hW1⟩ : ∃ W1, W1 = wr.drewN nq := ⟨_, rfl⟩
      have HB1 := Lib.hid (show Below w.heap.size w W1 from by rw [hW1]; exact HBr.out.trans ⟨rfl, rfl, rfl, Nat.le_refl _, fun k hk => rfl⟩)
      have HR1 := Lib.hid (show Blk R #[.int .i64 0, .int .i64 0, .int .i64 0, .int .i64 0, .slice none 0 0, .slice none 0 0] 80 W1 from by rw [hW1]; exact HRr0.out)
      rw [← hW1]; clear hW1 g1 g2 HRr0; have HCW := Lib.hid (show ∀ (e : Int) (X : World), 1 ≤ e → e ≤ 4 → Below w.heap.size w X → Calls Tryz.prog 217 #[.slice (some ⟨b, o, none⟩) (j + 1) c, .int .i64 e] X fun x w' => x = .returned (.int .i64 (Tt.wdK ds e 7)) ∧ Below X.heap.size X w' from fun e X h0 h1 hX => by have h := weekdays217 ds (some ⟨b, o, none⟩) c B e X HDD.out (Nat.le_trans HBB.out hX.size) (HI.out.below (hX.mono HBB.out)) h0 h1; rw [← HN.out] at h; exact h)
      have HCV := Lib.hid (show ∀ (e : Int) (X : World), 1 ≤ e → e ≤ 4 → Below w.heap.size w X → Calls Tryz.prog 216 #[.slice (some ⟨b, o, none⟩) (j + 1) c, .int .i64 e, .int .i64 (Tt.wdK ds e 7)] X (RetS (Tt.withV ds e) X) from fun e X h0 h1 hX => by have h := with216 ds (some ⟨b, o, none⟩) c B e (Tt.wdK ds e 7) X HDD.out (Nat.le_trans HBB.out hX.size) (HI.out.below (hX.mono HBB.out)) h0 h1 (by omega) (by have := Tt.wdK_lt ds e 7 (by omega); omega); rw [← HN.out] at h; exact h)
      go_wp2_with fail
      refine (HCW.out 1 _ (by omega) (by omega) HB1.out).mono ?_
      rintro e w2 ⟨rfl, hb2⟩; have HB2 := Lib.hid (HB1.out.trans (hb2.mono HB1.out.size))
      have HX2 := Lib.hid hb2; clear hb2; go_wp2_with fail
      refine (HCV.out 1 _ (by omega) (by omega) HB2.out).mono ?_
      rintro e w3 ⟨pa, pb, ca, cb, rfl, hx, hy, hb3⟩; have HB3 := Lib.hid (HB2.out.trans (hb3.mono HB2.out.size))
      have HX3 := Lib.hid (HX2.out.trans (hb3.mono HX2.out.size))
      have HEX := Lib.hid (ownsRow_mono hx HX2.out.size)
      have HXT := Lib.hid (ownsRow_mono hy HX2.out.size)
      clear hb3 hx hy; unfold serVal
      go_upto_region 13 with (fail)
      obtain ⟨T, hT⟩ : ∃ T, T = w3.heap.size := ⟨_, rfl⟩
      obtain ⟨W4, hW4⟩ : ∃ W4, W4 = w3.alloc (.cells #[.int .i64 (Tt.withV ds 1).first, .int .i64 (Tt.withV ds 1).last, .int .i64 (Tt.withV ds 1).every, .int .i64 (Tt.withV ds 1).wd, .slice pa (Tt.withV ds 1).ex.length ca, .slice pb (Tt.withV ds 1).xt.length cb] 80) := ⟨_, rfl⟩
      have HQ4 := Lib.hid (show SerQ T W1.heap.size (Tt.bestK ds 0) pa pb ca cb W4 from by rw [hW4, hT]; exact ⟨Blk.new w3 _ _, World.ownsRow.alloc HEX.out _, World.ownsRow.alloc HXT.out _⟩)
      have HX4 := Lib.hid (show Below W1.heap.size W1 W4 from by rw [hW4]; exact HX3.out.trans ((below_box w3 _).mono HX3.out.size))
      have HT0 := Lib.hid (show W1.heap.size ≤ T from by rw [hT]; exact HX3.out.size)
      rw [← hW4, ← hT]; clear hW4 hT HEX HXT HX3 HB3 HB2 HX2; go_wp2_with fail
      have HQT := Lib.hid (show W1.heap.size ≤ T from HT0.out)
      go_loopw [6] (fun iv wr => ∃ (e : Nat) (p p' : Option Addr) (cc cc' : Nat), iv = .int .i64 ((e : Int) + 2) ∧ e ≤ 3 ∧ Hid (SerQ T W1.heap.size (Tt.bestK ds e) p p' cc cc' wr) ∧ Hid (Below W1.heap.size W1 wr)) (fun iv _ => 5 - (intOf iv).toNat)
      case atStart => exact ⟨0, pa, pb, ca, cb, rfl, by omega, HQ4, HX4⟩
      case round =>
        clear HQ4 HX4; obtain ⟨e, p, p', cc, cc', rfl, he, HQ, HX⟩ := hrel; have HBw := Lib.hid (HB1.out.trans (HX.out.mono HB1.out.size))
        by_cases hlt : e < 3
        rotate_left
        · have hei : ¬ (e : Int) + 2 ≤ 4 := by omega
          obtain rfl : e = 3 := by omega
          have c0 : wr.cell? ⟨T, 0, none⟩ = some (.int .i64 (Tt.bestK ds 3).first) := HQ.out.box.cell 0
          have c1 : wr.cell? ⟨T, 1, none⟩ = some (.int .i64 (Tt.bestK ds 3).last) := HQ.out.box.cell 1
          have c2 : wr.cell? ⟨T, 2, none⟩ = some (.int .i64 (Tt.bestK ds 3).every) := HQ.out.box.cell 2
          have c3 : wr.cell? ⟨T, 3, none⟩ = some (.int .i64 (Tt.bestK ds 3).wd) := HQ.out.box.cell 3
          have c4 : wr.cell? ⟨T, 4, none⟩ = some (.slice p (Tt.bestK ds 3).ex.length cc) := HQ.out.box.cell 4
          have c5 : wr.cell? ⟨T, 5, none⟩ = some (.slice p' (Tt.bestK ds 3).xt.length cc') := HQ.out.box.cell 5
          have HRr := Lib.hid (HR1.out.below HX.out HR1.out.lt)
          have r0 := HRr.out.frozen 0; have r1 := HRr.out.frozen 1; have r2 := HRr.out.frozen 2; have r3 := HRr.out.frozen 3; have r4 := HRr.out.frozen 4; have r5 := HRr.out.frozen 5; have z0 := HRr.out.cell 0; have z1 := HRr.out.cell 1; have z2 := HRr.out.cell 2; have z3 := HRr.out.cell 3; have z4 := HRr.out.cell 4; have z5 := HRr.out.cell 5; simp only [List.getElem?_toArray, List.getElem?_cons_zero, List.getElem?_cons_succ] at z0 z1 z2 z3 z4 z5
          go_wp2_with fail
          obtain ⟨Y, hY, hBk, hE⟩ := fill6R HRr.out rfl HBw.out (by rw [HRW.out]; exact Nat.le_refl _) (.int .i64 (Tt.bestK ds 3).first) (.int .i64 (Tt.bestK ds 3).last) (.int .i64 (Tt.bestK ds 3).every) (.int .i64 (Tt.bestK ds 3).wd) (.slice p (Tt.bestK ds 3).ex.length cc) (.slice p' (Tt.bestK ds 3).xt.length cc')
          have hX := row_setAll (by decide) [.int .i64 (Tt.bestK ds 3).first, .int .i64 (Tt.bestK ds 3).last, .int .i64 (Tt.bestK ds 3).every, .int .i64 (Tt.bestK ds 3).wd, .slice p (Tt.bestK ds 3).ex.length cc, .slice p' (Tt.bestK ds 3).xt.length cc'] 0 wr _ HQ.out.ex HRr.out
          have hX2 := row_setAll (by decide) [.int .i64 (Tt.bestK ds 3).first, .int .i64 (Tt.bestK ds 3).last, .int .i64 (Tt.bestK ds 3).every, .int .i64 (Tt.bestK ds 3).wd, .slice p (Tt.bestK ds 3).ex.length cc, .slice p' (Tt.bestK ds 3).xt.length cc'] 0 wr _ HQ.out.xt HRr.out
          rw [show setAll wr R 0 [.int .i64 (Tt.bestK ds 3).first, .int .i64 (Tt.bestK ds 3).last, .int .i64 (Tt.bestK ds 3).every, .int .i64 (Tt.bestK ds 3).wd, .slice p (Tt.bestK ds 3).ex.length cc, .slice p' (Tt.bestK ds 3).xt.length cc'] = Y from by rw [hY]; rfl] at hX hX2
          have HXX := Lib.hid (ownsRow_mono hX HB1.out.size)
          have HXX2 := Lib.hid (ownsRow_mono hX2 HB1.out.size)
          rw [← hY]; clear hY hX hX2 r0 z0 c0 r1 z1 c1 r2 z2 c2 r3 z3 c3 r4 z4 c4 r5 z5 c5; have r0 := hBk.cell 0; have r1 := hBk.cell 1; have r2 := hBk.cell 2; have r3 := hBk.cell 3; have r4 := hBk.cell 4; have r5 := hBk.cell 5; simp only [List.getElem?_toArray, List.getElem?_cons_zero, List.getElem?_cons_succ] at r0 r1 r2 r3 r4 r5
          refine bodyPost_ret (v := .tuple #[.agg #[.int .i64 (Tt.bestK ds 3).first, .int .i64 (Tt.bestK ds 3).last, .int .i64 (Tt.bestK ds 3).every, .int .i64 (Tt.bestK ds 3).wd, .slice p (Tt.bestK ds 3).ex.length cc, .slice p' (Tt.bestK ds 3).xt.length cc'], .int .i64 0]) (by simp [results, Tryz.results141, go_sem, r0, r1, r2, r3, r4, r5]) rfl ?_
          exact ⟨p, p', cc, cc', rfl, HXX.out, HXX2.out, hE⟩
        have hei : (e : Int) + 2 ≤ 4 := by omega
        have he0 : (0 : Int) ≤ (e : Int) := by omega
        have HLT := Lib.hid hlt; go_upto_region 16 with (fail)
        go_cut [7] from 56 to 65 (fun uv wx => ∃ (U : Nat) (qa qb : Option Addr) (d1 d2 : Nat), uv = .pointer (some ⟨U, 0, none⟩) ∧ Hid (SerQ U W1.heap.size (Tt.withV ds ((e : Int) + 2)) qa qb d1 d2 wx) ∧ Hid (Below wr.heap.size wr wx) ∧ Hid (T ≠ U))
        case first =>
          go_wp2_with fail
          refine (HCW.out ((e : Int) + 2) _ (by omega) (by omega) HBw.out).mono ?_
          rintro e1 w2 ⟨rfl, hb2⟩; have HB2 := Lib.hid (HBw.out.trans (hb2.mono HBw.out.size))
          have HX2 := Lib.hid hb2; clear hb2; go_wp2_with fail
          refine (HCV.out ((e : Int) + 2) _ (by omega) (by omega) HB2.out).mono ?_
          rintro e1 w3 ⟨qa, qb, d1, d2, rfl, hx, hy, hb3⟩; have HX3 := Lib.hid (HX2.out.trans (hb3.mono HX2.out.size))
          have hxs := HX.out.size; have hxs2 := HX2.out.size; have HEX := Lib.hid (ownsRow_mono hx (Nat.le_trans hxs hxs2))
          have HXT := Lib.hid (ownsRow_mono hy (Nat.le_trans hxs hxs2))
          clear hb3 hx hy hxs hxs2; unfold serVal
          go_wp2_with fail
          go_meet
          exact ⟨_, qa, qb, d1, d2, rfl, Lib.hid ⟨Blk.new w3 _ _, World.ownsRow.alloc HEX.out _, World.ownsRow.alloc HXT.out _⟩, Lib.hid (HX3.out.trans ((below_box w3 _).mono HX3.out.size)), Lib.hid (by have := HQ.out.box.lt; have := HX3.out.size; omega)⟩
        case rest =>
        obtain ⟨U, qa, qb, d1, d2, rfl, HU4, HX4, HTU⟩ := hcut; obtain ⟨W4, hw4⟩ : ∃ W4, W4 = wc := ⟨_, rfl⟩
        rw [← hw4] at HU4 HX4 ⊢
        clear hw4 wc; have HT4 := Lib.hid (HQ.out.made HX4.out)
        clear HQ; obtain ⟨s, hs⟩ : ∃ s, s = Tt.withV ds ((e : Int) + 2) := ⟨_, rfl⟩
        rw [← hs] at HU4
        have HSV := Lib.hid hs; have hsl := (Tt.with_len ds HSPN.out.2 ((e : Int) + 2)).1
        have hsl2 := (Tt.with_len ds HSPN.out.2 ((e : Int) + 2)).2
        rw [← hs] at hsl hsl2
        clear hs; obtain ⟨t, ht⟩ : ∃ t, t = Tt.bestK ds e := ⟨_, rfl⟩
        have HTV := Lib.hid ht; have htl := (Tt.best_len ds HSPN.out.2 e).1
        have htl2 := (Tt.best_len ds HSPN.out.2 e).2
        rw [← ht] at htl htl2 HT4
        clear ht; go_upto_region 17 with (fail)
        refine wp_region_tail 3 (by kernel_rfl) (fun listed a x => ∃ (l0 l1 l2 : Bool) (t66 t67 t68 : Value), listed = #[l0, l1, l2, false, false] ∧ a = ⟨(.slice (some ⟨b, o, none⟩) (j + 1) c :: undef :: .pointer (some ⟨R, 0, none⟩) :: u3 :: .int .i64 k :: .pointer (some ⟨T, 0, none⟩) :: .int .i64 ((e : Int) + 2) :: .pointer (some ⟨U, 0, none⟩) :: .slice (some ⟨b, o, none⟩) (j + 1) c :: .int .i64 ((j : Int) + 1) :: .bool false :: undef :: .int .i64 k :: .slice (some ⟨b, o, none⟩) (j + 1) c :: .int .i64 ((j : Int) + 1) :: .bool false :: u16 :: u17 :: u18 :: u19 :: u20 :: u21 :: u22 :: u23 :: u24 :: u25 :: u26 :: u27 :: u28 :: u29 :: u30 :: u31 :: u32 :: u33 :: u34 :: u35 :: u36 :: u37 :: u38 :: u39 :: .slice (some ⟨b, o, none⟩) (j + 1) c :: .slice (some ⟨b, o, none⟩) (j + 1) c :: .int .i64 ((j : Int) + 1) :: .int .i64 j :: .pointer (some ⟨b, o + j, none⟩) :: .int .i64 L :: .slice (some ⟨b, o, none⟩) (j + 1) c :: .pointer (some ⟨b, o, none⟩) :: .int .i64 F :: .int .i64 (F + 140) :: .bool false :: undef :: .slice (some ⟨b, o, none⟩) (j + 1) c :: .slice (some ⟨b, o, none⟩) (j + 1) c :: .int .i64 (Tt.wdK ds 1 7) :: .agg #[.int .i64 (Tt.withV ds 1).first, .int .i64 (Tt.withV ds 1).last, .int .i64 (Tt.withV ds 1).every, .int .i64 (Tt.withV ds 1).wd, .slice pa (Tt.withV ds 1).ex.length ca, .slice pb (Tt.withV ds 1).xt.length cb] :: u56 :: u57 :: u58 :: u59 :: u60 :: u61 :: u62 :: u63 :: u64 :: u65 :: t66 :: t67 :: t68 :: u69 :: u70 :: u71 :: undef :: []).toArray, []⟩ ∧ Hid (l0 = true → t66 = .agg #[.int .i64 s.first, .int .i64 s.last, .int .i64 s.every, .int .i64 s.wd, .slice qa s.ex.length d1, .slice qb s.xt.length d2]) ∧ Hid (l1 = true → t67 = .int .i64 ((s.ex.length : Int) + s.xt.length)) ∧ Hid (l2 = true → t68 = .agg #[.int .i64 t.first, .int .i64 t.last, .int .i64 t.every, .int .i64 t.wd, .slice p t.ex.length cc, .slice p' t.xt.length cc']) ∧ Hid (Made W4 x)) (by decide) (by kernel_rfl) (by kernel_rfl) ?_ ?_ ?_ ?_
        · exact ⟨false, false, false, _, _, _, rfl, rfl, Lib.hid (fun h => by cases h), Lib.hid (fun h => by cases h), Lib.hid (fun h => by cases h), Lib.hid (Made.start W4)⟩
        · intro listed a x hj; obtain ⟨l0, hj⟩ := hj
          obtain ⟨l1, hj⟩ := hj; obtain ⟨l2, hj⟩ := hj; obtain ⟨t66, hj⟩ := hj; obtain ⟨t67, hj⟩ := hj; obtain ⟨t68, hj⟩ := hj; obtain ⟨h1, -⟩ := hj; subst h1; exact ⟨rfl, fun k h1 h2 => by (have h2 : k < 5 := h2); rcases (show k = 3 ∨ k = 4 by omega) with rfl | rfl <;> rfl⟩
        · intro listed a x i hj hlt hu haf; obtain ⟨l0, hj⟩ := hj
          obtain ⟨l1, hj⟩ := hj; obtain ⟨l2, hj⟩ := hj; obtain ⟨t66, hj⟩ := hj; obtain ⟨t67, hj⟩ := hj; obtain ⟨t68, hj⟩ := hj; obtain ⟨hl_, hj⟩ := hj; obtain ⟨ha_, hj⟩ := hj; obtain ⟨H0, hj⟩ := hj; obtain ⟨H1, hj⟩ := hj; obtain ⟨H2, hj⟩ := hj; have HS := hj; clear hj; subst hl_; subst ha_; rcases (show ∀ i : Nat, i < 3 → (i = 0 ∨ i = 1 ∨ i = 2) by decide) i hlt with rfl | rfl | rfl
          · have haf := haf _ rfl; clear haf
            have hu : l0 = false := hu
            have c0 : x.cell? ⟨U, 0, none⟩ = some (.int .i64 s.first) := (HU4.out.box.below HS.out.below HU4.out.box.lt).cell 0
            have c1 : x.cell? ⟨U, 1, none⟩ = some (.int .i64 s.last) := (HU4.out.box.below HS.out.below HU4.out.box.lt).cell 1
            have c2 : x.cell? ⟨U, 2, none⟩ = some (.int .i64 s.every) := (HU4.out.box.below HS.out.below HU4.out.box.lt).cell 2
            have c3 : x.cell? ⟨U, 3, none⟩ = some (.int .i64 s.wd) := (HU4.out.box.below HS.out.below HU4.out.box.lt).cell 3
            have c4 : x.cell? ⟨U, 4, none⟩ = some (.slice qa s.ex.length d1) := (HU4.out.box.below HS.out.below HU4.out.box.lt).cell 4
            have c5 : x.cell? ⟨U, 5, none⟩ = some (.slice qb s.xt.length d2) := (HU4.out.box.below HS.out.below HU4.out.box.lt).cell 5
            refine wpOp_of_list_any rfl fun QQ hQ => ?_
            have hQQ := Lib.hid hQ; clear hQ; simp only [List.getElem_toArray, List.getElem_cons_zero]
            go_wp2_with fail
            exact hQQ.out _ _ ⟨true, l1, l2, _, _, _, rfl, rfl, Lib.hid (fun _ => rfl), H1, H2, HS⟩
          · have haf := haf _ rfl; have q0 : l0 = true := haf ⟨0, Go.Ground.data⟩ (by simp) rfl
            clear haf; have hu : l1 = false := hu
            have e0 := (H0.out q0)
            subst e0; clear H0; refine wpOp_of_list_any rfl fun QQ hQ => ?_
            have hQQ := Lib.hid hQ; clear hQ; simp only [List.getElem_toArray, List.getElem_cons_zero, List.getElem_cons_succ]
            go_wp2_with fail
            refine (show Calls Tryz.prog 218 #[.agg #[.int .i64 s.first, .int .i64 s.last, .int .i64 s.every, .int .i64 s.wd, .slice qa s.ex.length d1, .slice qb s.xt.length d2]] x _ from exceptions218 s _ _ _ _ _ _ x (by omega) (by omega)).mono ?_
            rintro y x1 ⟨rfl, hb1⟩; have hk := Kept.made (B := W4.heap.size) hb1
            have HS1 := Lib.hid (HS.out.then hb1)
            clear hb1; go_wp2_with fail
            exact hQQ.out _ _ ⟨l0, true, l2, _, _, _, rfl, rfl, Lib.hid (fun _ => rfl), Lib.hid (fun _ => rfl), H2, HS1⟩
          · have haf := haf _ rfl; clear haf
            have hu : l2 = false := hu
            have c0 : x.cell? ⟨T, 0, none⟩ = some (.int .i64 t.first) := (HT4.out.box.below HS.out.below HT4.out.box.lt).cell 0
            have c1 : x.cell? ⟨T, 1, none⟩ = some (.int .i64 t.last) := (HT4.out.box.below HS.out.below HT4.out.box.lt).cell 1
            have c2 : x.cell? ⟨T, 2, none⟩ = some (.int .i64 t.every) := (HT4.out.box.below HS.out.below HT4.out.box.lt).cell 2
            have c3 : x.cell? ⟨T, 3, none⟩ = some (.int .i64 t.wd) := (HT4.out.box.below HS.out.below HT4.out.box.lt).cell 3
            have c4 : x.cell? ⟨T, 4, none⟩ = some (.slice p t.ex.length cc) := (HT4.out.box.below HS.out.below HT4.out.box.lt).cell 4
            have c5 : x.cell? ⟨T, 5, none⟩ = some (.slice p' t.xt.length cc') := (HT4.out.box.below HS.out.below HT4.out.box.lt).cell 5
            refine wpOp_of_list_any rfl fun QQ hQ => ?_
            have hQQ := Lib.hid hQ; clear hQ; simp only [List.getElem_toArray, List.getElem_cons_zero, List.getElem_cons_succ]
            go_wp2_with fail
            exact hQQ.out _ _ ⟨l0, l1, true, _, _, _, rfl, rfl, H0, H1, Lib.hid (fun _ => rfl), HS⟩
        · intro listed a x hj hall; obtain ⟨l0, hj⟩ := hj
          obtain ⟨l1, hj⟩ := hj; obtain ⟨l2, hj⟩ := hj; obtain ⟨t66, hj⟩ := hj; obtain ⟨t67, hj⟩ := hj; obtain ⟨t68, hj⟩ := hj; obtain ⟨hl_, hj⟩ := hj; obtain ⟨ha_, hj⟩ := hj; obtain ⟨H0, hj⟩ := hj; obtain ⟨H1, hj⟩ := hj; obtain ⟨H2, hj⟩ := hj; have HS := hj; clear hj; subst hl_; subst ha_; have q1 : l1 = true := hall 1 (by omega)
          have q2 : l2 = true := hall 2 (by omega)
          clear hall; have e1 := (H1.out q1)
          subst e1; have e2 := (H2.out q2)
          subst e2; refine tail_any (fun a x => ∃ (t66 t67 t68 t69 t70 : Value), a = ⟨(.slice (some ⟨b, o, none⟩) (j + 1) c :: undef :: .pointer (some ⟨R, 0, none⟩) :: u3 :: .int .i64 k :: .pointer (some ⟨T, 0, none⟩) :: .int .i64 ((e : Int) + 2) :: .pointer (some ⟨U, 0, none⟩) :: .slice (some ⟨b, o, none⟩) (j + 1) c :: .int .i64 ((j : Int) + 1) :: .bool false :: undef :: .int .i64 k :: .slice (some ⟨b, o, none⟩) (j + 1) c :: .int .i64 ((j : Int) + 1) :: .bool false :: u16 :: u17 :: u18 :: u19 :: u20 :: u21 :: u22 :: u23 :: u24 :: u25 :: u26 :: u27 :: u28 :: u29 :: u30 :: u31 :: u32 :: u33 :: u34 :: u35 :: u36 :: u37 :: u38 :: u39 :: .slice (some ⟨b, o, none⟩) (j + 1) c :: .slice (some ⟨b, o, none⟩) (j + 1) c :: .int .i64 ((j : Int) + 1) :: .int .i64 j :: .pointer (some ⟨b, o + j, none⟩) :: .int .i64 L :: .slice (some ⟨b, o, none⟩) (j + 1) c :: .pointer (some ⟨b, o, none⟩) :: .int .i64 F :: .int .i64 (F + 140) :: .bool false :: undef :: .slice (some ⟨b, o, none⟩) (j + 1) c :: .slice (some ⟨b, o, none⟩) (j + 1) c :: .int .i64 (Tt.wdK ds 1 7) :: .agg #[.int .i64 (Tt.withV ds 1).first, .int .i64 (Tt.withV ds 1).last, .int .i64 (Tt.withV ds 1).every, .int .i64 (Tt.withV ds 1).wd, .slice pa (Tt.withV ds 1).ex.length ca, .slice pb (Tt.withV ds 1).xt.length cb] :: u56 :: u57 :: u58 :: u59 :: u60 :: u61 :: u62 :: u63 :: u64 :: u65 :: t66 :: t67 :: t68 :: t69 :: t70 :: u71 :: undef :: []).toArray, []⟩ ∧ t70 = .bool (decide ((s.ex.length : Int) + s.xt.length < (t.ex.length : Int) + t.xt.length)) ∧ Below W4.heap.size W4 x) ?_ fun QQ hQ => ?_
          · intro a x hpost; obtain ⟨t66, hpost⟩ := hpost
            obtain ⟨t67, hpost⟩ := hpost; obtain ⟨t68, hpost⟩ := hpost; obtain ⟨t69, hpost⟩ := hpost; obtain ⟨t70, hpost⟩ := hpost; obtain ⟨ha_, hpost⟩ := hpost; subst ha_; obtain ⟨rfl, hb6⟩ := hpost; have HB6 := Lib.hid hb6; have HT6 := Lib.hid (HT4.out.made hb6)
            have HU6 := Lib.hid (HU4.out.made hb6)
            have HX6 := Lib.hid (HX4.out.trans (hb6.mono HX4.out.size))
            clear hb6 HT4 HU4 HX4; have HBK := Lib.hid (show Tt.bestK ds (e + 1) = if (s.ex.length : Int) + s.xt.length < (t.ex.length : Int) + t.xt.length then s else t from by rw [Tt.bestK, ← HTV.out, ← HSV.out]; rfl)
            by_cases hlt2 : (s.ex.length : Int) + s.xt.length < (t.ex.length : Int) + t.xt.length
            rotate_left
            · have HB2 := Lib.hid (show t = Tt.bestK ds (e + 1) from by rw [HBK.out, if_neg hlt2])
              have HR2 := Lib.hid (show SerQ T W1.heap.size (Tt.bestK ds (e + 1)) p p' cc cc' x from by rw [← HB2.out]; exact HT6.out)
              go_wp2_with fail
              go_roundw
              case rel => exact ⟨e + 1, p, p', cc, cc', by go_num, by have := HLT.out; omega, HR2, Lib.hid (HX.out.trans (HX6.out.mono HX.out.size))⟩
              case measure => simp [intOf]; omega
            · have HB2 := Lib.hid (show s = Tt.bestK ds (e + 1) from by rw [HBK.out]; exact (if_pos hlt2).symm)
              have u00 : x.cell? ⟨U, 0, none⟩ = some (.int .i64 s.first) := HU6.out.box.cell 0
              have u10 : x.cell? ⟨U, 1, none⟩ = some (.int .i64 s.last) := HU6.out.box.cell 1
              have u20 : x.cell? ⟨U, 2, none⟩ = some (.int .i64 s.every) := HU6.out.box.cell 2
              have u30 : x.cell? ⟨U, 3, none⟩ = some (.int .i64 s.wd) := HU6.out.box.cell 3
              have u40 : x.cell? ⟨U, 4, none⟩ = some (.slice qa s.ex.length d1) := HU6.out.box.cell 4
              have u50 : x.cell? ⟨U, 5, none⟩ = some (.slice qb s.xt.length d2) := HU6.out.box.cell 5
              have t00 : x.cell? ⟨T, 0, none⟩ = some (.int .i64 t.first) := HT6.out.box.cell 0
              have t10 : x.cell? ⟨T, 1, none⟩ = some (.int .i64 t.last) := HT6.out.box.cell 1
              have t20 : x.cell? ⟨T, 2, none⟩ = some (.int .i64 t.every) := HT6.out.box.cell 2
              have t30 : x.cell? ⟨T, 3, none⟩ = some (.int .i64 t.wd) := HT6.out.box.cell 3
              have t40 : x.cell? ⟨T, 4, none⟩ = some (.slice p t.ex.length cc) := HT6.out.box.cell 4
              have t50 : x.cell? ⟨T, 5, none⟩ = some (.slice p' t.xt.length cc') := HT6.out.box.cell 5
              have f00 := HT6.out.box.frozen 0; have f10 := HT6.out.box.frozen 1; have f20 := HT6.out.box.frozen 2; have f30 := HT6.out.box.frozen 3; have f40 := HT6.out.box.frozen 4; have f50 := HT6.out.box.frozen 5; go_wp2_with fail
              obtain ⟨Y, hY, hBk, hE⟩ := fill6R (w0 := W1) HT6.out.box rfl (HX.out.trans (HX6.out.mono HX.out.size)) (HQT.out) (.int .i64 s.first) (.int .i64 s.last) (.int .i64 s.every) (.int .i64 s.wd) (.slice qa s.ex.length d1) (.slice qb s.xt.length d2)
              have hX := row_setAll (by decide) [.int .i64 s.first, .int .i64 s.last, .int .i64 s.every, .int .i64 s.wd, .slice qa s.ex.length d1, .slice qb s.xt.length d2] 0 x _ HU6.out.ex HT6.out.box
              have hX2 := row_setAll (by decide) [.int .i64 s.first, .int .i64 s.last, .int .i64 s.every, .int .i64 s.wd, .slice qa s.ex.length d1, .slice qb s.xt.length d2] 0 x _ HU6.out.xt HT6.out.box
              rw [show setAll x T 0 [.int .i64 s.first, .int .i64 s.last, .int .i64 s.every, .int .i64 s.wd, .slice qa s.ex.length d1, .slice qb s.xt.length d2] = Y from by rw [hY]; rfl] at hX hX2
              rw [← hY]; have HR2 := Lib.hid (show SerQ T W1.heap.size (Tt.bestK ds (e + 1)) qa qb d1 d2 Y from by rw [← HB2.out]; exact ⟨hBk, hX, hX2⟩)
              have HE2 := Lib.hid hE; clear hY hX hX2 hBk hE u00 t00 f00 u10 t10 f10 u20 t20 f20 u30 t30 f30 u40 t40 f40 u50 t50 f50; go_wp2_with fail
              go_roundw
              case rel => exact ⟨e + 1, qa, qb, d1, d2, by go_num, by have := HLT.out; omega, HR2, HE2⟩
              case measure => simp [intOf]; omega
          have hQQ := Lib.hid hQ; clear hQ; simp only [List.drop_succ_cons, List.drop_zero]
          go_wp2_with fail
          refine (show Calls Tryz.prog 218 #[.agg #[.int .i64 t.first, .int .i64 t.last, .int .i64 t.every, .int .i64 t.wd, .slice p t.ex.length cc, .slice p' t.xt.length cc']] x _ from exceptions218 t _ _ _ _ _ _ x (by omega) (by omega)).mono ?_
          rintro y x1 ⟨rfl, hb1⟩; have HS1 := Lib.hid (HS.out.then hb1)
          clear hb1; go_wp2_with fail
          exact hQQ.out _ _ ⟨_, _, _, _, _, rfl, rfl, HS1.out.below⟩
end Go.Proofs.YtageielcdebjlaaGreatDoor
