/- The reference's series of days: with, weekdays, Exceptions. -/
import Derived.Test.YtageielcdebjlaaGreatDoorPk16
import Derived.BigQuiet
namespace Go.Proofs.YtageielcdebjlaaGreatDoor
open Go.RowKit

/-- A series without lists in a new box is one whose lists have not grown yet. -/
theorem SerM.new {S lo : Nat} {ds : List Int} {e m : Int} {w : World} (h : Blk S #[.int .i64 (Tt.fstD ds), .int .i64 (Tt.lstD ds), .int .i64 e, .int .i64 m, .slice none 0 0, .slice none 0 0] 80 w) : SerM S lo (Tt.serK ds e m 0) (.slice none 0 0) (.slice none 0 0) w :=
  ⟨h, RowI.nil _ _, RowI.nil _ _, .inl rfl⟩
/-- A series that is handed back. -/
def RetS (s : Tt.Ser) (w : World) (x : Ending) (w' : World) : Prop := ∃ (p p' : Option Addr) (c c' : Nat), x = .returned (serVal s (.slice p s.ex.length c) (.slice p' s.xt.length c')) ∧ RowI w.heap.size w' (.slice p s.ex.length c) s.ex ∧ RowI w.heap.size w' (.slice p' s.xt.length c') s.xt ∧ Below w.heap.size w w'
set_option maxHeartbeats 8000000 in
set_option maxRecDepth 100000 in
theorem with216 (ds : List Int) (ao : Option Addr) (c B : Nat) (e m : Int) (w : World) (hd : Tt.DsOk ds) (hB : B ≤ w.heap.size) (hI : Ints B w ao ds) (he0 : 1 ≤ e) (he1 : e ≤ 4) (hm0 : 0 ≤ m) (hm1 : m ≤ 127) : Calls Tryz.prog 216 #[.slice ao ds.length c, .int .i64 e, .int .i64 m] w (RetS (Tt.serK ds e m (Tt.spanN ds)) w) := by
  obtain ⟨i0, hii, hz0, hz1, hz2⟩ := info_parts infoInt
  obtain ⟨f0, f1, l0, l1⟩ := hd.bd
  have hfl := hd.le; have hfs := hd.sp; obtain ⟨hspn, hsp1⟩ := hd.span
  obtain ⟨b, o, ha, hb, hc0⟩ := hI.form hd.pos
  subst ha; have h1 := hc0 0 _ hd.first
  have h2 := hc0 _ _ hd.last
  rw [Nat.add_zero] at h1
  have HI := Lib.hid hI; have HDD := Lib.hid hd; have hdl := hd.len; obtain ⟨j, hj⟩ : ∃ j, ds.length = j + 1 := ⟨ds.length - 1, by have := hd.pos; omega⟩
  rw [hj, Nat.add_sub_cancel] at h2
  obtain ⟨F, hF⟩ : ∃ F, F = Tt.fstD ds := ⟨_, rfl⟩
  obtain ⟨L, hL⟩ : ∃ L, L = Tt.lstD ds := ⟨_, rfl⟩
  have HF := Lib.hid hF; have HL := Lib.hid hL; have hj0 : (0 : Int) ≤ (j : Int) := by omega
  have hj1 : (j : Int) < (j : Int) + 1 := by omega
  have hjz : (0 : Int) < (j : Int) + 1 := by omega
  have hjm : j ≤ 1000000 := by omega
  have HJ := Lib.hid hj; rw [← hF, ← hL] at hspn hfl hfs
  rw [← hF] at f0 f1 h1
  rw [← hL] at l0 l1 h2
  rw [hj]
  obtain ⟨R, hR⟩ : ∃ R, R = w.heap.size := ⟨_, rfl⟩
  obtain ⟨W0, hW0⟩ : ∃ W0, W0 = w.alloc (.cells #[.int .i64 0, .int .i64 0, .int .i64 0, .int .i64 0, .slice none 0 0, .slice none 0 0] 80) := ⟨_, rfl⟩
  have HB0 := Lib.hid (show Below w.heap.size w W0 from by rw [hW0]; exact below_box w _)
  have HR0 := Lib.hid (show Blk R #[.int .i64 0, .int .i64 0, .int .i64 0, .int .i64 0, .slice none 0 0, .slice none 0 0] 80 W0 from by rw [hW0, hR]; exact Blk.new w _ _)
  have g1 := (HB0.out.cell (p := ⟨b, o, none⟩) (show b < w.heap.size by omega)).trans h1
  have g2 := (HB0.out.cell (p := ⟨b, o + j, none⟩) (show b < w.heap.size by omega)).trans h2
  have HRW := Lib.hid hR; have HBW := Lib.hid hB; have hbw : b < w.heap.size := by omega
  have hb0 : b < W0.heap.size := by have := HB0.out.size; omega
  have hbne : b ≠ W0.heap.size := by omega
  clear hd hI hj hF hL hc0 h1 h2 hdl; go_enter Tryz.func216, Tryz.ntmps216
  go_upto_region 1 with (fail)
  rw [← hW0, ← hR]; clear hW0 hR; go_region
  obtain ⟨S, hS⟩ : ∃ S, S = W0.heap.size := ⟨_, rfl⟩
  obtain ⟨W1, hW1⟩ : ∃ W, W = (W0.alloc (.cells #[.int .i64 F, .int .i64 L, .int .i64 e, .int .i64 m, .slice none 0 0, .slice none 0 0] 80)).drew := ⟨_, rfl⟩
  have HS0 := Lib.hid (show Blk S #[.int .i64 F, .int .i64 L, .int .i64 e, .int .i64 m, .slice none 0 0, .slice none 0 0] 80 W1 from by rw [hW1, hS]; exact Blk.draw (Blk.new W0 _ _))
  have HB1 := Lib.hid (show Below w.heap.size w W1 from by rw [hW1]; exact (HB0.out.trans ((below_box W0 _).mono HB0.out.size)).drew)
  have HRS := Lib.hid (show R < S ∧ w.heap.size ≤ S from ⟨by rw [hS]; exact HR0.out.lt, by rw [hS]; exact HB0.out.size⟩)
  rw [← hW1, ← hS]; have HR1 := Lib.hid (show Blk R #[.int .i64 0, .int .i64 0, .int .i64 0, .int .i64 0, .slice none 0 0, .slice none 0 0] 80 W1 from by rw [hW1]; exact Blk.draw (HR0.out.alloc _))
  clear hW1 hS HR0 HB0 g1 g2 hb0 hbne; have c0 : W1.cell? ⟨S, 0, none⟩ = some (.int .i64 F) := HS0.out.cell 0
  have HSM := Lib.hid (show SerM S (S + 1) (Tt.serK ds e m 0) (.slice none 0 0) (.slice none 0 0) W1 from SerM.new (by have h := HS0.out; rw [HF.out, HL.out] at h; exact h))
  have HIn := Lib.hid (show ∀ X, Below S W1 X → Ints B X (some ⟨b, o, none⟩) ds from fun X hX => HI.out.below ((HB1.out.mono hB).trans (hX.mono (by have := HRS.out.2; omega))))
  have HC1 := Lib.hid (show ∀ (k : Nat) (hk : k < Tt.spanN ds) (p p' : Option Addr) (n n' c c' : Nat) (X : World), Calls Tryz.prog 187 #[.agg #[.int .i64 F, .int .i64 L, .int .i64 e, .int .i64 m, .slice p n c, .slice p' n' c'], .int .i64 (F + k)] X fun x w' => x = .returned (.bool (Tt.regB (Tt.headS ds e m) (F + k))) ∧ Below X.heap.size X w' from fun k hk p p' n n' c c' X => by rw [HF.out, HL.out]; exact regular187 (Tt.headS ds e m) _ X ((Tt.isD_iff _).2 ⟨by show 0 ≤ Tt.fstD ds; rw [← HF.out]; exact f0, by show Tt.fstD ds ≤ _; rw [← HF.out]; exact f1⟩) ((Tt.isD_iff _).2 ⟨by rw [← HF.out]; omega, by rw [← HF.out]; omega⟩) (by show Tt.fstD ds ≤ _; omega) (by show _ ≤ Tt.lstD ds; rw [← HF.out, ← HL.out]; omega) he0 he1 hm0 hm1 p p' n n' c c')
  have HC2 := Lib.hid (show ∀ (x : Int) (X : World), Below S W1 X → Calls Tryz.prog 188 #[.slice (some ⟨b, o, none⟩) (j + 1) c, .int .i64 x] X fun y w' => y = .returned (.bool (decide (x ∈ ds))) ∧ w' = X from fun x X hX => by have h := in188 B (some ⟨b, o, none⟩) c ds x X (HIn.out X hX) (by rw [HJ.out]; omega); rw [HJ.out] at h; exact h)
  go_wp2_with fail
  go_loopw [8] (fun iv wr => ∃ (k : Nat) (p p' : Option Addr) (cc cc' : Nat), iv = .int .i64 (F + k) ∧ k ≤ Tt.spanN ds ∧ Hid (SerM S (S + 1) (Tt.serK ds e m k) (.slice p (Tt.exK ds (Tt.headS ds e m) k).length cc) (.slice p' (Tt.xtK ds (Tt.headS ds e m) k).length cc') wr) ∧ Hid (Below S W1 wr)) (fun iv _ => (L + 1 - intOf iv).toNat)
  case atStart => exact ⟨0, none, none, 0, 0, by simp, Nat.zero_le _, HSM, Lib.hid (Below.refl _ _)⟩
  case round =>
    clear c0 HSM; obtain ⟨k, p, p', cc, cc', rfl, hk, HM, HB⟩ := hrel; have hsz : S < wr.heap.size := HM.out.box.lt
    have c0 : wr.cell? ⟨S, 0, none⟩ = some (.int .i64 F) := ((show Blk S #[.int .i64 F, .int .i64 L, .int .i64 e, .int .i64 m, .slice p (Tt.exK ds (Tt.headS ds e m) k).length cc, .slice p' (Tt.xtK ds (Tt.headS ds e m) k).length cc'] 80 wr from by rw [HF.out, HL.out]; exact HM.out.box)).cell 0
    have c1 : wr.cell? ⟨S, 1, none⟩ = some (.int .i64 L) := ((show Blk S #[.int .i64 F, .int .i64 L, .int .i64 e, .int .i64 m, .slice p (Tt.exK ds (Tt.headS ds e m) k).length cc, .slice p' (Tt.xtK ds (Tt.headS ds e m) k).length cc'] 80 wr from by rw [HF.out, HL.out]; exact HM.out.box)).cell 1
    have c2 : wr.cell? ⟨S, 2, none⟩ = some (.int .i64 e) := ((show Blk S #[.int .i64 F, .int .i64 L, .int .i64 e, .int .i64 m, .slice p (Tt.exK ds (Tt.headS ds e m) k).length cc, .slice p' (Tt.xtK ds (Tt.headS ds e m) k).length cc'] 80 wr from by rw [HF.out, HL.out]; exact HM.out.box)).cell 2
    have c3 : wr.cell? ⟨S, 3, none⟩ = some (.int .i64 m) := ((show Blk S #[.int .i64 F, .int .i64 L, .int .i64 e, .int .i64 m, .slice p (Tt.exK ds (Tt.headS ds e m) k).length cc, .slice p' (Tt.xtK ds (Tt.headS ds e m) k).length cc'] 80 wr from by rw [HF.out, HL.out]; exact HM.out.box)).cell 3
    have c4 : wr.cell? ⟨S, 4, none⟩ = some (.slice p (Tt.exK ds (Tt.headS ds e m) k).length cc) := ((show Blk S #[.int .i64 F, .int .i64 L, .int .i64 e, .int .i64 m, .slice p (Tt.exK ds (Tt.headS ds e m) k).length cc, .slice p' (Tt.xtK ds (Tt.headS ds e m) k).length cc'] 80 wr from by rw [HF.out, HL.out]; exact HM.out.box)).cell 4
    have c5 : wr.cell? ⟨S, 5, none⟩ = some (.slice p' (Tt.xtK ds (Tt.headS ds e m) k).length cc') := ((show Blk S #[.int .i64 F, .int .i64 L, .int .i64 e, .int .i64 m, .slice p (Tt.exK ds (Tt.headS ds e m) k).length cc, .slice p' (Tt.xtK ds (Tt.headS ds e m) k).length cc'] 80 wr from by rw [HF.out, HL.out]; exact HM.out.box)).cell 5
    by_cases hlt : k < Tt.spanN ds
    rotate_left
    · have hki : ¬ (F + (k : Int) ≤ L) := by omega
      obtain rfl : k = Tt.spanN ds := by omega
      have HRr := Lib.hid (HR1.out.below HB.out HRS.out.1)
      have r0 := HRr.out.frozen 0; have r1 := HRr.out.frozen 1; have r2 := HRr.out.frozen 2; have r3 := HRr.out.frozen 3; have r4 := HRr.out.frozen 4; have r5 := HRr.out.frozen 5; have z0 := HRr.out.cell 0; have z1 := HRr.out.cell 1; have z2 := HRr.out.cell 2; have z3 := HRr.out.cell 3; have z4 := HRr.out.cell 4; have z5 := HRr.out.cell 5; simp only [List.getElem?_toArray, List.getElem?_cons_zero, List.getElem?_cons_succ] at z0 z1 z2 z3 z4 z5
      go_wp2_with fail
      obtain ⟨Y, hY, hBk, hE⟩ := fill6R HRr.out rfl (HB1.out.trans (HB.out.mono HRS.out.2)) (by rw [HRW.out]; exact Nat.le_refl _) (.int .i64 F) (.int .i64 L) (.int .i64 e) (.int .i64 m) (.slice p (Tt.exK ds (Tt.headS ds e m) (Tt.spanN ds)).length cc) (.slice p' (Tt.xtK ds (Tt.headS ds e m) (Tt.spanN ds)).length cc')
      have hX := row_setAll (by decide) [.int .i64 F, .int .i64 L, .int .i64 e, .int .i64 m, .slice p (Tt.exK ds (Tt.headS ds e m) (Tt.spanN ds)).length cc, .slice p' (Tt.xtK ds (Tt.headS ds e m) (Tt.spanN ds)).length cc'] 0 wr _ HM.out.ex HRr.out
      have hX2 := row_setAll (by decide) [.int .i64 F, .int .i64 L, .int .i64 e, .int .i64 m, .slice p (Tt.exK ds (Tt.headS ds e m) (Tt.spanN ds)).length cc, .slice p' (Tt.xtK ds (Tt.headS ds e m) (Tt.spanN ds)).length cc'] 0 wr _ HM.out.xt HRr.out
      rw [show setAll wr R 0 [.int .i64 F, .int .i64 L, .int .i64 e, .int .i64 m, .slice p (Tt.exK ds (Tt.headS ds e m) (Tt.spanN ds)).length cc, .slice p' (Tt.xtK ds (Tt.headS ds e m) (Tt.spanN ds)).length cc'] = Y from by rw [hY]; rfl] at hX hX2
      have HX := Lib.hid (ownsRow_mono hX (by have := HRS.out.2; omega : w.heap.size ≤ S + 1))
      have HX2 := Lib.hid (ownsRow_mono hX2 (by have := HRS.out.2; omega : w.heap.size ≤ S + 1))
      rw [← hY]; clear hY hX hX2 r0 z0 c0 r1 z1 c1 r2 z2 c2 r3 z3 c3 r4 z4 c4 r5 z5 c5; have r0 := hBk.cell 0; have r1 := hBk.cell 1; have r2 := hBk.cell 2; have r3 := hBk.cell 3; have r4 := hBk.cell 4; have r5 := hBk.cell 5; simp only [List.getElem?_toArray, List.getElem?_cons_zero, List.getElem?_cons_succ] at r0 r1 r2 r3 r4 r5
      refine bodyPost_ret (v := .agg #[.int .i64 F, .int .i64 L, .int .i64 e, .int .i64 m, .slice p (Tt.exK ds (Tt.headS ds e m) (Tt.spanN ds)).length cc, .slice p' (Tt.xtK ds (Tt.headS ds e m) (Tt.spanN ds)).length cc']) (by simp [results, Tryz.results216, go_sem, r0, r1, r2, r3, r4, r5]) rfl ?_
      exact ⟨p, p', cc, cc', by rw [HF.out, HL.out]; rfl, HX.out, HX2.out, hE⟩
    have hki : F + (k : Int) ≤ L := by omega
    have hk0 : (0 : Int) ≤ (k : Int) := by omega
    have hk1 : (k : Int) ≤ 141 := by omega
    have HLT := Lib.hid hlt; go_wp2_with fail
    refine (HC1.out k hlt p p' _ _ cc cc' _).mono ?_
    rintro q1 w2 ⟨rfl, hb2⟩; have HB2 := Lib.hid (HB.out.trans (hb2.mono (Nat.le_of_lt hsz)))
    have HM2 := Lib.hid (HM.out.made hb2)
    have hsz2 : S < w2.heap.size := HM2.out.box.lt
    clear hb2 HB HM c0 c1 c2 c3 c4 c5; have c0 : w2.cell? ⟨S, 0, none⟩ = some (.int .i64 F) := ((show Blk S #[.int .i64 F, .int .i64 L, .int .i64 e, .int .i64 m, .slice p (Tt.exK ds (Tt.headS ds e m) k).length cc, .slice p' (Tt.xtK ds (Tt.headS ds e m) k).length cc'] 80 w2 from by rw [HF.out, HL.out]; exact HM2.out.box)).cell 0
    have c1 : w2.cell? ⟨S, 1, none⟩ = some (.int .i64 L) := ((show Blk S #[.int .i64 F, .int .i64 L, .int .i64 e, .int .i64 m, .slice p (Tt.exK ds (Tt.headS ds e m) k).length cc, .slice p' (Tt.xtK ds (Tt.headS ds e m) k).length cc'] 80 w2 from by rw [HF.out, HL.out]; exact HM2.out.box)).cell 1
    have c2 : w2.cell? ⟨S, 2, none⟩ = some (.int .i64 e) := ((show Blk S #[.int .i64 F, .int .i64 L, .int .i64 e, .int .i64 m, .slice p (Tt.exK ds (Tt.headS ds e m) k).length cc, .slice p' (Tt.xtK ds (Tt.headS ds e m) k).length cc'] 80 w2 from by rw [HF.out, HL.out]; exact HM2.out.box)).cell 2
    have c3 : w2.cell? ⟨S, 3, none⟩ = some (.int .i64 m) := ((show Blk S #[.int .i64 F, .int .i64 L, .int .i64 e, .int .i64 m, .slice p (Tt.exK ds (Tt.headS ds e m) k).length cc, .slice p' (Tt.xtK ds (Tt.headS ds e m) k).length cc'] 80 w2 from by rw [HF.out, HL.out]; exact HM2.out.box)).cell 3
    have c4 : w2.cell? ⟨S, 4, none⟩ = some (.slice p (Tt.exK ds (Tt.headS ds e m) k).length cc) := ((show Blk S #[.int .i64 F, .int .i64 L, .int .i64 e, .int .i64 m, .slice p (Tt.exK ds (Tt.headS ds e m) k).length cc, .slice p' (Tt.xtK ds (Tt.headS ds e m) k).length cc'] 80 w2 from by rw [HF.out, HL.out]; exact HM2.out.box)).cell 4
    have c5 : w2.cell? ⟨S, 5, none⟩ = some (.slice p' (Tt.xtK ds (Tt.headS ds e m) k).length cc') := ((show Blk S #[.int .i64 F, .int .i64 L, .int .i64 e, .int .i64 m, .slice p (Tt.exK ds (Tt.headS ds e m) k).length cc, .slice p' (Tt.xtK ds (Tt.headS ds e m) k).length cc'] 80 w2 from by rw [HF.out, HL.out]; exact HM2.out.box)).cell 5
    obtain ⟨g, hg⟩ : ∃ g, g = Tt.regB (Tt.headS ds e m) (F + k) := ⟨_, rfl⟩
    rw [← hg]; have HG := Lib.hid (show Tt.regB (Tt.headS ds e m) ((Tt.headS ds e m).first + k) = g from by rw [hg, HF.out]; rfl)
    clear hg; obtain ⟨i, hi⟩ : ∃ i, i = decide (F + (k : Int) ∈ ds) := ⟨_, rfl⟩
    have HIN := Lib.hid (show (decide ((Tt.headS ds e m).first + (k : Int) ∈ ds)) = i from by rw [hi, HF.out]; rfl)
    have HCI := Lib.hid (show Calls Tryz.prog 188 #[.slice (some ⟨b, o, none⟩) (j + 1) c, .int .i64 (F + k)] w2 fun y w' => y = .returned (.bool i) ∧ w' = w2 from by rw [hi]; exact HC2.out _ _ HB2.out)
    clear hi; have hxl := (Tt.exK_len ds (Tt.headS ds e m) k).1
    have hyl := (Tt.exK_len ds (Tt.headS ds e m) k).2
    obtain ⟨X, hXX⟩ : ∃ X, X = Tt.exK ds (Tt.headS ds e m) k := ⟨_, rfl⟩
    obtain ⟨Y, hYY⟩ : ∃ Y, Y = Tt.xtK ds (Tt.headS ds e m) k := ⟨_, rfl⟩
    have HM3 := Lib.hid (show SerM S (S + 1) ⟨Tt.fstD ds, Tt.lstD ds, e, m, X, Y⟩ (.slice p X.length cc) (.slice p' Y.length cc') w2 from by rw [hXX, hYY]; exact HM2.out)
    have HK := Lib.hid (show Tt.serK ds e m (k + 1) = ⟨Tt.fstD ds, Tt.lstD ds, e, m, (if g = true ∧ i = false then X ++ [F + (k : Int)] else X), (if g = false ∧ i = true then Y ++ [F + (k : Int)] else Y)⟩ from by
      unfold Tt.serK
      rw [Tt.exK, Tt.xtK, HG.out, ← hXX, ← hYY]
      rw [show ((Tt.headS ds e m).first + (k : Int)) = F + k from by rw [HF.out]; rfl]
      have h := HIN.out; rw [show ((Tt.headS ds e m).first + (k : Int)) = F + k from by rw [HF.out]; rfl] at h
      cases g <;> cases i <;> simp_all)
    rw [← hXX] at c4 hxl
    rw [← hYY] at c5 hyl
    clear hXX hYY HM2; have HEXex := Lib.hid (show RowI (S + 1) w2 (.slice p X.length cc) X from HM3.out.ex)
    have HEXxt := Lib.hid (show RowI (S + 1) w2 (.slice p' Y.length cc') Y from HM3.out.xt)
    cases g
    rotate_left
    · go_wp2_with fail
      refine HCI.out.mono ?_
      rintro q3 w3 ⟨rfl, hx⟩; rw [hx]
      clear hx w3 HCI; cases i
      · skip
        go_wp2_with (at_builtin; refine wpList_append_own_at _ rfl (.tmp 41) (.tmp 43) 27 rfl (S + 1) 3 i0 (.int .i64 0) 1 8 Tryz.underlying27 hii hz0 hz1 hz2 rfl (by decide) _ _ _ rfl (World.ownsRow.alloc HEXex.out _) ⟨w2.heap.size, 0, none⟩ 1 1 [.int .i64 (F + (k : Int))] rfl rfl (cell_one _ _ _) (by intro u hu; simp at hu; subst hu; rfl) (by unfold maxLen; omega) (by omega) (by simp; omega) ?_)
        intro v2 x8 hown8 hgrow _ hat; obtain ⟨p2, c2x, hv2⟩ := ownsRow_len hown8
        subst hv2; have HM8 := Lib.hid ((HM3.out.made (below_box w2 _)).addX hown8 hgrow (hat.imp id (fun h => by rw [h]; simp)))
        have HB8 := Lib.hid ((below_grownBy (HB2.out.trans ((below_box w2 _).mono (Nat.le_of_lt hsz2))) (World.ownsRow.alloc HM3.out.ex _) (by omega) (by simp; omega) hgrow).setCell (p := ⟨S, 4, none⟩) (Nat.le_refl S) (.slice p2 (X.length + 1) c2x))
        have hcz := ((HM3.out.made (below_box w2 (.cells #[.int .i64 (F + (k : Int))] 3))).box.grown (World.ownsRow.alloc HM3.out.ex (.cells #[.int .i64 (F + (k : Int))] 3)) hgrow (by decide)).cell 4
        have hfz := ((HM3.out.made (below_box w2 (.cells #[.int .i64 (F + (k : Int))] 3))).box.grown (World.ownsRow.alloc HM3.out.ex (.cells #[.int .i64 (F + (k : Int))] 3)) hgrow (by decide)).frozen 4
        simp only [List.getElem?_toArray, List.getElem?_cons_zero, List.getElem?_cons_succ] at hcz
        clear hown8 hgrow hat c0 c1 c2 c3 c4 c5 HM3 HB2; go_wp2_with fail
        have HRL := Lib.hid (show SerM S (S + 1) (Tt.serK ds e m (k + 1)) (.slice p2 (Tt.exK ds (Tt.headS ds e m) (k + 1)).length c2x) (.slice p' (Tt.xtK ds (Tt.headS ds e m) (k + 1)).length cc') _ from by
          rw [show Tt.exK ds (Tt.headS ds e m) (k + 1) = (Tt.serK ds e m (k + 1)).ex from rfl, show Tt.xtK ds (Tt.headS ds e m) (k + 1) = (Tt.serK ds e m (k + 1)).xt from rfl, HK.out]
          exact by rw [if_pos ⟨by trivial, by trivial⟩, if_neg (fun h => by cases h.1)]; rw [List.length_append]; exact HM8.out)
        go_roundw
        case rel => exact ⟨k + 1, p2, p', c2x, cc', by go_num, by have := HLT.out; omega, HRL, HB8⟩
        case measure => simp [intOf]; omega
      · go_wp2_with fail
        have HRL := Lib.hid (show SerM S (S + 1) (Tt.serK ds e m (k + 1)) (.slice p (Tt.exK ds (Tt.headS ds e m) (k + 1)).length cc) (.slice p' (Tt.xtK ds (Tt.headS ds e m) (k + 1)).length cc') _ from by
          rw [show Tt.exK ds (Tt.headS ds e m) (k + 1) = (Tt.serK ds e m (k + 1)).ex from rfl, show Tt.xtK ds (Tt.headS ds e m) (k + 1) = (Tt.serK ds e m (k + 1)).xt from rfl, HK.out]
          exact by rw [if_neg (fun h => by cases h.2), if_neg (fun h => by cases h.1)]; exact HM3.out)
        go_roundw
        case rel => exact ⟨k + 1, p, p', cc, cc', by go_num, by have := HLT.out; omega, HRL, HB2⟩
        case measure => simp [intOf]; omega
    · go_wp2_with fail
      refine HCI.out.mono ?_
      rintro q3 w3 ⟨rfl, hx⟩; rw [hx]
      clear hx w3 HCI; cases i
      rotate_left
      · skip
        go_wp2_with (at_builtin; refine wpList_append_own_at _ rfl (.tmp 54) (.tmp 56) 27 rfl (S + 1) 3 i0 (.int .i64 0) 1 8 Tryz.underlying27 hii hz0 hz1 hz2 rfl (by decide) _ _ _ rfl (World.ownsRow.alloc HEXxt.out _) ⟨w2.heap.size, 0, none⟩ 1 1 [.int .i64 (F + (k : Int))] rfl rfl (cell_one _ _ _) (by intro u hu; simp at hu; subst hu; rfl) (by unfold maxLen; omega) (by omega) (by simp; omega) ?_)
        intro v2 x8 hown8 hgrow _ hat; obtain ⟨p2, c2x, hv2⟩ := ownsRow_len hown8
        subst hv2; have HM8 := Lib.hid ((HM3.out.made (below_box w2 _)).addY hown8 hgrow (hat.imp id (fun h => by rw [h]; simp)))
        have HB8 := Lib.hid ((below_grownBy (HB2.out.trans ((below_box w2 _).mono (Nat.le_of_lt hsz2))) (World.ownsRow.alloc HM3.out.xt _) (by omega) (by simp; omega) hgrow).setCell (p := ⟨S, 5, none⟩) (Nat.le_refl S) (.slice p2 (Y.length + 1) c2x))
        have hcz := ((HM3.out.made (below_box w2 (.cells #[.int .i64 (F + (k : Int))] 3))).box.grown (World.ownsRow.alloc HM3.out.xt (.cells #[.int .i64 (F + (k : Int))] 3)) hgrow (by decide)).cell 5
        have hfz := ((HM3.out.made (below_box w2 (.cells #[.int .i64 (F + (k : Int))] 3))).box.grown (World.ownsRow.alloc HM3.out.xt (.cells #[.int .i64 (F + (k : Int))] 3)) hgrow (by decide)).frozen 5
        simp only [List.getElem?_toArray, List.getElem?_cons_zero, List.getElem?_cons_succ] at hcz
        clear hown8 hgrow hat c0 c1 c2 c3 c4 c5 HM3 HB2; go_wp2_with fail
        have HRL := Lib.hid (show SerM S (S + 1) (Tt.serK ds e m (k + 1)) (.slice p (Tt.exK ds (Tt.headS ds e m) (k + 1)).length cc) (.slice p2 (Tt.xtK ds (Tt.headS ds e m) (k + 1)).length c2x) _ from by
          rw [show Tt.exK ds (Tt.headS ds e m) (k + 1) = (Tt.serK ds e m (k + 1)).ex from rfl, show Tt.xtK ds (Tt.headS ds e m) (k + 1) = (Tt.serK ds e m (k + 1)).xt from rfl, HK.out]
          exact by rw [if_neg (fun h => by cases h.1), if_pos ⟨by trivial, by trivial⟩]; rw [List.length_append]; exact HM8.out)
        go_roundw
        case rel => exact ⟨k + 1, p, p2, cc, c2x, by go_num, by have := HLT.out; omega, HRL, HB8⟩
        case measure => simp [intOf]; omega
      · go_wp2_with fail
        have HRL := Lib.hid (show SerM S (S + 1) (Tt.serK ds e m (k + 1)) (.slice p (Tt.exK ds (Tt.headS ds e m) (k + 1)).length cc) (.slice p' (Tt.xtK ds (Tt.headS ds e m) (k + 1)).length cc') _ from by
          rw [show Tt.exK ds (Tt.headS ds e m) (k + 1) = (Tt.serK ds e m (k + 1)).ex from rfl, show Tt.xtK ds (Tt.headS ds e m) (k + 1) = (Tt.serK ds e m (k + 1)).xt from rfl, HK.out]
          exact by rw [if_neg (fun h => by cases h.1), if_neg (fun h => by cases h.2)]; exact HM3.out)
        go_roundw
        case rel => exact ⟨k + 1, p, p', cc, cc', by go_num, by have := HLT.out; omega, HRL, HB2⟩
        case measure => simp [intOf]; omega
set_option maxHeartbeats 8000000 in
set_option maxRecDepth 100000 in
theorem exceptions218 (s : Tt.Ser) (p p' : Option Addr) (n n' c c' : Nat) (w : World) (h1 : n ≤ 1000000000) (h2 : n' ≤ 1000000000) : Calls Tryz.prog 218 #[serVal s (.slice p n c) (.slice p' n' c')] w fun e w' => e = .returned (.int .i64 ((n : Int) + n')) ∧ Below w.heap.size w w' := by
  have HB := Lib.hid (below_box w (.cells #[.int .i64 s.first, .int .i64 s.last, .int .i64 s.every, .int .i64 s.wd, .slice p n c, .slice p' n' c'] 80))
  unfold serVal
  go_enter Tryz.func218, Tryz.ntmps218
  go_wp2_with fail
  go_ret; exact ⟨rfl, HB.out⟩
theorem reg_on {ds : List Int} (hd : Tt.DsOk ds) (e : Int) (j k : Nat) (hj : j < 7) (hk : k < Tt.spanN ds) : Tt.regB (Tt.headS ds e ((2 ^ j : Nat) : Int)) (Tt.fstD ds + k) = Tt.onB ds e j (Tt.fstD ds + k) := by
  obtain ⟨h1, -⟩ := hd.span
  obtain ⟨w0, w1⟩ := Tt.wk_bd (Tt.fstD ds + k)
  obtain ⟨x, hx⟩ : ∃ x : Nat, Tt.wk (Tt.fstD ds + k) = x := ⟨(Tt.wk (Tt.fstD ds + k)).toNat, by omega⟩
  show (decide (Tt.fstD ds ≤ Tt.fstD ds + k) && decide (Tt.fstD ds + k ≤ Tt.lstD ds) && Tt.bit ((2 ^ j : Nat) : Int) (Tt.wk (Tt.fstD ds + k)) && Tt.cnt (Tt.fstD ds) e (Tt.fstD ds + k)) = (decide (Tt.wk (Tt.fstD ds + k) = j) && Tt.cnt (Tt.fstD ds) e (Tt.fstD ds + k))
  rw [decide_eq_true (show Tt.fstD ds ≤ Tt.fstD ds + k by omega), decide_eq_true (show Tt.fstD ds + k ≤ Tt.lstD ds by omega), hx, Tt.bit_pow j hj x (by omega)]
  rfl
theorem reg187_on (ds : List Int) (e : Int) (hd : Tt.DsOk ds) (he0 : 1 ≤ e) (he1 : e ≤ 4) (j k : Nat) (hj : j < 7) (hk : k < Tt.spanN ds) (pw : Nat) (hpw : pw = 2 ^ j) (F L : Int) (hF : F = Tt.fstD ds) (hL : L = Tt.lstD ds) (X : World) : Calls Tryz.prog 187 #[.agg #[.int .i64 F, .int .i64 L, .int .i64 e, .int .i64 pw, .slice none 0 0, .slice none 0 0], .int .i64 (F + k)] X fun x w' => x = .returned (.bool (Tt.onB ds e j (F + k))) ∧ Below X.heap.size X w' := by
  obtain ⟨f0, f1, l0, l1⟩ := hd.bd
  obtain ⟨h1, -⟩ := hd.span
  have hp : pw ≤ 64 := by rw [hpw]; exact Nat.pow_le_pow_right (n := 2) (by decide) (show j ≤ 6 by omega)
  have hr := reg_on hd e j k hj hk; rw [← hpw] at hr
  subst hF hL
  have h := regular187 (Tt.headS ds e (pw : Int)) (Tt.fstD ds + k) X ((Tt.isD_iff _).2 ⟨f0, f1⟩) ((Tt.isD_iff _).2 ⟨by omega, by omega⟩) (show Tt.fstD ds ≤ Tt.fstD ds + k by omega) (show Tt.fstD ds + k ≤ Tt.lstD ds by omega) he0 he1 (show (0 : Int) ≤ (pw : Int) by omega) (show (pw : Int) ≤ 127 by omega) none none 0 0 0 0
  rw [hr] at h
  exact h
set_option maxHeartbeats 8000000 in
set_option maxRecDepth 100000 in
theorem weekdays217 (ds : List Int) (ao : Option Addr) (c B : Nat) (e : Int) (w : World) (hd : Tt.DsOk ds) (hB : B ≤ w.heap.size) (hI : Ints B w ao ds) (he0 : 1 ≤ e) (he1 : e ≤ 4) : Calls Tryz.prog 217 #[.slice ao ds.length c, .int .i64 e] w (fun x w' => x = .returned (.int .i64 (Tt.wdK ds e 7)) ∧ Below w.heap.size w w') := by
  obtain ⟨i0, hii, hz0, hz1, hz2⟩ := info_parts infoInt
  obtain ⟨f0, f1, l0, l1⟩ := hd.bd
  have hfl := hd.le; have hfs := hd.sp; obtain ⟨hspn, hsp1⟩ := hd.span
  obtain ⟨b, o, ha, hb, hc0⟩ := hI.form hd.pos
  subst ha; have h1 := hc0 0 _ hd.first
  have h2 := hc0 _ _ hd.last
  rw [Nat.add_zero] at h1
  have HI := Lib.hid hI; have HDD := Lib.hid hd; have hdl := hd.len; obtain ⟨j, hj⟩ : ∃ j, ds.length = j + 1 := ⟨ds.length - 1, by have := hd.pos; omega⟩
  rw [hj, Nat.add_sub_cancel] at h2
  obtain ⟨F, hF⟩ : ∃ F, F = Tt.fstD ds := ⟨_, rfl⟩
  obtain ⟨L, hL⟩ : ∃ L, L = Tt.lstD ds := ⟨_, rfl⟩
  have HF := Lib.hid hF; have HL := Lib.hid hL; have hj0 : (0 : Int) ≤ (j : Int) := by omega
  have hj1 : (j : Int) < (j : Int) + 1 := by omega
  have hjz : (0 : Int) < (j : Int) + 1 := by omega
  have hjm : j ≤ 1000000 := by omega
  have HJ := Lib.hid hj; rw [← hF, ← hL] at hspn hfl hfs
  rw [← hF] at f0 f1 h1
  rw [← hL] at l0 l1 h2
  rw [hj]
  have hbw : b < w.heap.size := by omega
  have HG1 := Lib.hid h1; have HG2 := Lib.hid h2; have HBB := Lib.hid hB; clear hd hI hj hF hL hc0 h1 h2 hdl; have HC2 := Lib.hid (show ∀ (x : Int) (X : World), Below w.heap.size w X → Calls Tryz.prog 188 #[.slice (some ⟨b, o, none⟩) (j + 1) c, .int .i64 x] X fun y w' => y = .returned (.bool (decide (x ∈ ds))) ∧ w' = X from fun x X hX => by have h := in188 B (some ⟨b, o, none⟩) c ds x X (HI.out.below (hX.mono hB)) (by rw [HJ.out]; omega); rw [HJ.out] at h; exact h)
  go_enter Tryz.func217, Tryz.ntmps217
  go_wp2_with fail
  go_loopw [5, 6] (fun sv iv wr => ∃ jj : Nat, iv = .int .i64 jj ∧ sv = .int .i64 (Tt.wdK ds e jj) ∧ jj ≤ 7 ∧ Hid (Below w.heap.size w wr)) (fun _ iv _ => 7 - (intOf iv).toNat)
  case atStart => exact ⟨0, rfl, rfl, by omega, Lib.hid (Below.refl _ _)⟩
  case round =>
    obtain ⟨jj, rfl, rfl, hjj, HB⟩ := hrel; by_cases hlt : jj < 7
    rotate_left
    · have hji : ¬ (jj : Int) < 7 := by omega
      obtain rfl : jj = 7 := by omega
      go_wp2_with fail
      go_ret; exact ⟨rfl, HB.out⟩
    have hji : (jj : Int) < 7 := by omega
    have hjj0 : ¬ ((jj : Int) < 0) := by omega
    have hjj1 : (0 : Int) ≤ (jj : Int) := by omega
    have hvl := Tt.wdK_lt ds e jj hjj; obtain ⟨V, hV⟩ : ∃ V, V = Tt.wdK ds e jj := ⟨_, rfl⟩
    rw [← hV] at hvl ⊢
    have HV := Lib.hid hV; clear hV; obtain ⟨pw, hpw⟩ : ∃ pw : Nat, pw = 2 ^ jj := ⟨_, rfl⟩
    have hp1 : pw ≤ 64 := by rw [hpw]; exact Nat.pow_le_pow_right (n := 2) (by decide) (show jj ≤ 6 by omega)
    have HPW := Lib.hid hpw; have hs1 : RowKit.wrap64 (2 ^ jj) = (pw : Int) := by rw [show ((2 : Int) ^ jj) = ((2 ^ jj : Nat) : Int) by simp, ← hpw]; unfold RowKit.wrap64; omega
    have hor : bits BinOp.or IntKind.i64 (V : Int) (pw : Int) = ((V ||| pw : Nat) : Int) := by have h := Tt.or_any jj hlt V hvl; rw [hs1] at h; rw [h, hpw]
    have HOR := Lib.hid hor; have hb0 : b < wr.heap.size := by have := HB.out.size; omega
    have hbne : b ≠ wr.heap.size := by omega
    have g1 := (HB.out.cell (p := ⟨b, o, none⟩) hbw).trans HG1.out
    have g2 := (HB.out.cell (p := ⟨b, o + j, none⟩) hbw).trans HG2.out
    have HLT := Lib.hid hlt; clear hpw hor hlt; go_upto_region 5 with (fail)
    go_region
    obtain ⟨S, hS⟩ : ∃ S, S = wr.heap.size := ⟨_, rfl⟩
    obtain ⟨W1, hW1⟩ : ∃ W, W = (wr.alloc (.cells #[.int .i64 F, .int .i64 L, .int .i64 e, .int .i64 pw, .slice none 0 0, .slice none 0 0] 80)).drew := ⟨_, rfl⟩
    have HS0 := Lib.hid (show Blk S #[.int .i64 F, .int .i64 L, .int .i64 e, .int .i64 pw, .slice none 0 0, .slice none 0 0] 80 W1 from by rw [hW1, hS]; exact Blk.draw (Blk.new wr _ _))
    have HB1 := Lib.hid (show Below w.heap.size w W1 from by rw [hW1]; exact (HB.out.trans ((below_box wr _).mono HB.out.size)).drew)
    rw [← hW1, ← hS]; clear hW1 hS g1 g2 hb0 hbne; have c0 : W1.cell? ⟨S, 0, none⟩ = some (.int .i64 F) := HS0.out.cell 0
    have HC1 := Lib.hid (show ∀ (k : Nat) (hk : k < Tt.spanN ds) (X : World), Calls Tryz.prog 187 #[.agg #[.int .i64 F, .int .i64 L, .int .i64 e, .int .i64 pw, .slice none 0 0, .slice none 0 0], .int .i64 (F + k)] X fun x w' => x = .returned (.bool (Tt.onB ds e jj (F + k))) ∧ Below X.heap.size X w' from fun k hk X => reg187_on ds e HDD.out he0 he1 jj k HLT.out hk pw HPW.out F L HF.out HL.out X)
    go_wp2_with fail
    clear c0; go_loopw [8, 9, 10] (fun hv mv iv wy => ∃ k : Nat, iv = .int .i64 (F + k) ∧ hv = .int .i64 (Tt.hitK ds e jj k) ∧ mv = .int .i64 (Tt.missK ds e jj k) ∧ k ≤ Tt.spanN ds ∧ Hid (Below W1.heap.size W1 wy)) (fun _ _ iv _ => (L + 1 - intOf iv).toNat)
    case atStart => exact ⟨0, by simp, rfl, rfl, Nat.zero_le _, Lib.hid (Below.refl _ _)⟩
    case round =>
      obtain ⟨k, rfl, rfl, rfl, hk, HY⟩ := hrel; have c0 : wr.cell? ⟨S, 0, none⟩ = some (.int .i64 F) := (HS0.out.below HY.out HS0.out.lt).cell 0
      have c1 : wr.cell? ⟨S, 1, none⟩ = some (.int .i64 L) := (HS0.out.below HY.out HS0.out.lt).cell 1
      have c2 : wr.cell? ⟨S, 2, none⟩ = some (.int .i64 e) := (HS0.out.below HY.out HS0.out.lt).cell 2
      have c3 : wr.cell? ⟨S, 3, none⟩ = some (.int .i64 pw) := (HS0.out.below HY.out HS0.out.lt).cell 3
      have c4 : wr.cell? ⟨S, 4, none⟩ = some (.slice none 0 0) := (HS0.out.below HY.out HS0.out.lt).cell 4
      have c5 : wr.cell? ⟨S, 5, none⟩ = some (.slice none 0 0) := (HS0.out.below HY.out HS0.out.lt).cell 5
      obtain ⟨t0, t1, t2, t3⟩ := Tt.hitK_bd ds e jj k
      obtain ⟨X, hX⟩ : ∃ X, X = Tt.hitK ds e jj k := ⟨_, rfl⟩
      obtain ⟨Y, hY⟩ : ∃ Y, Y = Tt.missK ds e jj k := ⟨_, rfl⟩
      rw [← hX] at t0 t1 ⊢
      rw [← hY] at t2 t3 ⊢
      have HX := Lib.hid hX; have HYY := Lib.hid hY; clear hX hY; by_cases hlt : k < Tt.spanN ds
      rotate_left
      · have hki : ¬ (F + (k : Int) ≤ L) := by omega
        obtain rfl : k = Tt.spanN ds := by omega
        have HFW := Lib.hid (HB1.out.trans (HY.out.mono HB1.out.size))
        have HW := Lib.hid (show Tt.wdK ds e (jj + 1) = if Y < X then V ||| pw else V from by rw [Tt.wdK, ← HX.out, ← HYY.out, ← HV.out, ← HPW.out])
        by_cases hxy : Y < X
        · have HW2 := Lib.hid (show Tt.wdK ds e (jj + 1) = V ||| pw from by rw [HW.out, if_pos hxy])
          have hor := HOR.out; go_wp2_with fail
          go_roundw
          case rel => exact ⟨jj + 1, by go_num, by rw [HW2.out], by have := HLT.out; omega, HFW⟩
          case measure => simp [intOf]; omega
        · have HW2 := Lib.hid (show Tt.wdK ds e (jj + 1) = V from by rw [HW.out, if_neg hxy])
          go_wp2_with fail
          go_roundw
          case rel => exact ⟨jj + 1, by go_num, by rw [HW2.out], by have := HLT.out; omega, HFW⟩
          case measure => simp [intOf]; omega
      have hki : F + (k : Int) ≤ L := by omega
      have hk0 : (0 : Int) ≤ (k : Int) := by omega
      have hk1 : (k : Int) ≤ 141 := by omega
      have HLK := Lib.hid hlt; go_wp2_with fail
      refine (HC1.out k hlt _).mono ?_
      rintro q1 w2 ⟨rfl, hb2⟩; have HY2 := Lib.hid (HY.out.trans (hb2.mono HY.out.size))
      clear hb2 HY c0 c1 c2 c3 c4 c5; have c0 : w2.cell? ⟨S, 0, none⟩ = some (.int .i64 F) := (HS0.out.below HY2.out HS0.out.lt).cell 0
      have c1 : w2.cell? ⟨S, 1, none⟩ = some (.int .i64 L) := (HS0.out.below HY2.out HS0.out.lt).cell 1
      have c2 : w2.cell? ⟨S, 2, none⟩ = some (.int .i64 e) := (HS0.out.below HY2.out HS0.out.lt).cell 2
      have c3 : w2.cell? ⟨S, 3, none⟩ = some (.int .i64 pw) := (HS0.out.below HY2.out HS0.out.lt).cell 3
      have c4 : w2.cell? ⟨S, 4, none⟩ = some (.slice none 0 0) := (HS0.out.below HY2.out HS0.out.lt).cell 4
      have c5 : w2.cell? ⟨S, 5, none⟩ = some (.slice none 0 0) := (HS0.out.below HY2.out HS0.out.lt).cell 5
      obtain ⟨g, hg⟩ : ∃ g, g = Tt.onB ds e jj (F + k) := ⟨_, rfl⟩
      obtain ⟨i, hi⟩ : ∃ i, i = decide (F + (k : Int) ∈ ds) := ⟨_, rfl⟩
      rw [← hg]; have HCI := Lib.hid (show Calls Tryz.prog 188 #[.slice (some ⟨b, o, none⟩) (j + 1) c, .int .i64 (F + k)] w2 fun y w' => y = .returned (.bool i) ∧ w' = w2 from by rw [hi]; exact HC2.out _ _ (HB1.out.trans (HY2.out.mono HB1.out.size)))
      have HK1 := Lib.hid (show Tt.hitK ds e jj (k + 1) = X + (if g = true ∧ i = true then 1 else 0) from by rw [Tt.hitK, ← HX.out, hg, hi, HF.out]; simp)
      have HK2 := Lib.hid (show Tt.missK ds e jj (k + 1) = Y + (if g = true ∧ i = false then 1 else 0) from by rw [Tt.missK, ← HYY.out, hg, hi, HF.out]; simp)
      clear hg hi hlt; cases g
      · go_wp2_with fail
        go_roundw
        case rel => exact ⟨k + 1, by go_num, by rw [HK1.out]; simp, by rw [HK2.out]; simp, by have := HLK.out; omega, HY2⟩
        case measure => simp [intOf]; omega
      · go_wp2_with fail
        refine HCI.out.mono ?_
        rintro q3 w3 ⟨rfl, hx⟩; rw [hx]
        clear hx w3 HCI; cases i
        · go_wp2_with fail
          go_roundw
          case rel => exact ⟨k + 1, by go_num, by rw [HK1.out]; simp, by rw [HK2.out]; simp, by have := HLK.out; omega, HY2⟩
          case measure => simp [intOf]; omega
        · go_wp2_with fail
          go_roundw
          case rel => exact ⟨k + 1, by go_num, by rw [HK1.out]; simp, by rw [HK2.out]; simp, by have := HLK.out; omega, HY2⟩
          case measure => simp [intOf]; omega
end Go.Proofs.YtageielcdebjlaaGreatDoor
