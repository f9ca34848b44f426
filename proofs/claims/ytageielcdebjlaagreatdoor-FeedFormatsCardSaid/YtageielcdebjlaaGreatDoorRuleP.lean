/- The program's recurrence.Parse (function 180) on the rule of a series. -/
import Derived.Test.YtageielcdebjlaaGreatDoorPk14
import Derived.Test.YtageielcdebjlaaGreatDoorCondAll
namespace Go.Proofs.YtageielcdebjlaaGreatDoor
open Go.RowKit

theorem cut_app (k l : List UInt8) (t K : ByteArray) (hK : K.data.toList = k) (ht : t.data.toList = k ++ l) (W : World) :
    Calls Tryz.prog 177 #[.string t, .string K] W fun e w' => e = .returned (.tuple #[.string ⟨l.toArray⟩, .bool true]) ∧ w' = W := by
  have h := Tryz.strings_CutPrefix t K W; rw [hK, ht, prefix_app, trim_app] at h
  exact h

set_option maxHeartbeats 4000000 in
set_option maxRecDepth 100000 in
theorem parse180 (s : Tt.Ser) (t : ByteArray) (w : World) (hh : Tt.Head s) (ht : t.data.toList = Tt.ruleL s) (hL : Lens w) (hw : 3 < w.heap.size) :
    Calls Tryz.prog 180 #[.int .i64 s.first, .string t] w fun e w' => e = .returned (.tuple #[.agg #[.int .i64 s.first, .int .i64 s.last, .int .i64 s.every, .int .i64 s.wd, .slice none 0 0, .slice none 0 0], .int .i64 0]) ∧ Below w.heap.size w w' := by
  have e0 := hh.e0; have e1 := hh.e1; obtain ⟨c, hc⟩ : ∃ c : UInt8, c = UInt8.ofNat (48 + s.every.toNat) := ⟨_, rfl⟩
  have hcn : (c.toNat : Int) = 48 + s.every := by rw [hc, Tt.ofNat_toNat (by omega)]; omega
  have hdd : Lib.decDigits s.every.toNat = [c] := by rw [Lib.decDigits_one (by omega), hc]
  obtain ⟨R4, hR4⟩ : ∃ q : ByteArray, q = ⟨(Tt.dateL s.last).toArray⟩ := ⟨_, rfl⟩
  obtain ⟨R3, hR3⟩ : ∃ q : ByteArray, q = ⟨(59 :: ([85, 78, 84, 73, 76, 61] ++ Tt.dateL s.last)).toArray⟩ := ⟨_, rfl⟩
  obtain ⟨R2, hR2⟩ : ∃ q : ByteArray, q = ⟨(Tt.byL s.wd 7 ++ 59 :: ([85, 78, 84, 73, 76, 61] ++ Tt.dateL s.last)).toArray⟩ := ⟨_, rfl⟩
  obtain ⟨R1, hR1⟩ : ∃ q : ByteArray, q = ⟨(c :: ([59, 66, 89, 68, 65, 89, 61] ++ (Tt.byL s.wd 7 ++ 59 :: ([85, 78, 84, 73, 76, 61] ++ Tt.dateL s.last)))).toArray⟩ := ⟨_, rfl⟩
  have hsz : 1 ≤ R1.size := by rw [hR1, size_mk, List.length_cons]; omega
  have H0 : R1.data.toList = c :: ([59, 66, 89, 68, 65, 89, 61] ++ (Tt.byL s.wd 7 ++ 59 :: ([85, 78, 84, 73, 76, 61] ++ Tt.dateL s.last))) := by rw [hR1]
  have HC1 : Hid (∀ W, Calls Tryz.prog 177 #[.string t, .string ⟨#[70, 82, 69, 81, 61, 87, 69, 69, 75, 76, 89, 59, 73, 78, 84, 69, 82, 86, 65, 76, 61]⟩] W fun e w' => e = .returned (.tuple #[.string R1, .bool true]) ∧ w' = W) := Lib.hid (fun W => by
    rw [hR1]
    exact cut_app [70, 82, 69, 81, 61, 87, 69, 69, 75, 76, 89, 59, 73, 78, 84, 69, 82, 86, 65, 76, 61] _ t _ rfl (by rw [ht, Tt.ruleL, hdd]; simp only [List.append_assoc, List.cons_append, List.nil_append]) W)
  have HC2 : Hid (∀ W, Calls Tryz.prog 177 #[.string (R1.extract 1 R1.size), .string ⟨#[59, 66, 89, 68, 65, 89, 61]⟩] W fun e w' => e = .returned (.tuple #[.string R2, .bool true]) ∧ w' = W) := Lib.hid (fun W => by
    rw [hR2]
    exact cut_app [59, 66, 89, 68, 65, 89, 61] _ _ _ rfl (by rw [Lib.extract_to_end, H0]; rfl) W)
  have HC3 : Hid (∀ W, Calls Tryz.prog 177 #[.string R3, .string ⟨#[59, 85, 78, 84, 73, 76, 61]⟩] W fun e w' => e = .returned (.tuple #[.string R4, .bool true]) ∧ w' = W) := Lib.hid (fun W => by
    rw [hR4]
    exact cut_app [59, 85, 78, 84, 73, 76, 61] _ _ _ rfl (by rw [hR3]; rfl) W)
  have HWK : Hid (∀ W, Calls Tryz.prog 257 #[.string R2] W fun e w' => e = .returned (.tuple #[.int .i64 s.wd, .string R3]) ∧ w' = W) := Lib.hid (fun W => by
    have h := weekdays257 R2 W; rw [show R2.data.toList = Tt.byL s.wd 7 ++ 59 :: ([85, 78, 84, 73, 76, 61] ++ Tt.dateL s.last) from by rw [hR2], Tt.wk_back _ hh.w0 (by have := hh.w1; omega), ← hR3] at h
    exact h)
  have HDT : Hid (∀ W, Below w.heap.size w W → Calls Tryz.prog 258 #[.string R4] W fun e w' => e = .returned (.tuple #[.int .i64 s.last, .bool true]) ∧ Below W.heap.size W w') := Lib.hid (fun W hW => date258 R4 s.last W (by rw [hR4]) hh.l0 hh.l1 (hL.below hw hW) (Nat.lt_of_lt_of_le hw hW.size))
  have HVL : Hid (∀ W : World, Calls Tryz.prog 145 #[.agg #[.int .i64 s.first, .int .i64 s.last, .int .i64 s.every, .int .i64 s.wd, .slice none 0 0, .slice none 0 0]] W fun e w' => e = .returned (.int .i64 0) ∧ Below W.heap.size W w') := Lib.hid (fun W => by
    have h := valid145_any ⟨s.first, s.last, s.every, s.wd, [], []⟩ 0 W (by simp) (by simp) none none 0 0 (Nat.zero_le _) (fun j x hj => by simp at hj) (fun j x hj => by simp at hj)
    rw [(Tt.serV_zero ⟨s.first, s.last, s.every, s.wd, [], []⟩).2 ⟨⟨hh.f0, hh.f1, hh.l0, hh.l1, hh.fl, hh.lf, hh.e0, hh.e1, hh.w0, hh.w1, by simp⟩, rfl, rfl⟩] at h
    exact h)
  have HI : Tt.isD s.first = true := by unfold Tt.isD; have := hh.f0; have := hh.f1; simp; omega
  have hch : R1[0]'hsz = c := by
    have h := Lib.data_getElem? R1 0 hsz
    rw [H0] at h
    simpa using h.symm
  have hne : R1.toList.isEmpty = false := by rw [Lib.toList_data, H0]; rfl
  have hc0 : ¬ (c.toNat : Int) < 48 := by omega
  have hc1 : ¬ 57 < (c.toNat : Int) := by omega
  have hsub : (c.toNat : Int) - 48 = s.every := by omega
  have HA : Hid (∀ W, Below w.heap.size w W → 3 < W.heap.size) := Lib.hid (fun W h => Nat.lt_of_lt_of_le hw h.size)
  clear hR1 hR2 hR3 hR4 H0 hc hdd ht hh hcn; go_enter Tryz.func180, Tryz.ntmps180
  go_wp2_with fail
  refine (isD206 s.first _).mono ?_
  rintro e w1 ⟨rfl, rfl⟩; rw [HI]
  go_wp2_with fail
  refine (HC1.out _).mono ?_
  rintro e w1 ⟨rfl, rfl⟩; go_wp2_with fail
  refine (HC2.out _).mono ?_
  rintro e w1 ⟨rfl, rfl⟩; go_wp2_with fail
  refine (HWK.out _).mono ?_
  rintro e w1 ⟨rfl, rfl⟩; go_wp2_with fail
  refine (HC3.out _).mono ?_
  rintro e w1 ⟨rfl, rfl⟩; go_wp2_with fail
  obtain ⟨Z, hZ⟩ : ∃ Z, Z = ((w.alloc (.cells #[.int .i64 0, .int .i64 0, .int .i64 0, .int .i64 0, .slice none 0 0, .slice none 0 0] 80)).alloc (.cells #[.int .i64 s.first, .int .i64 0, .int .i64 s.every, .int .i64 s.wd, .slice none 0 0, .slice none 0 0] 80)) := ⟨_, rfl⟩
  rw [← hZ]; have hA : Blk w.heap.size #[.int .i64 0, .int .i64 0, .int .i64 0, .int .i64 0, .slice none 0 0, .slice none 0 0] 80 Z := by rw [hZ]; exact (Blk.new w _ 80).alloc _
  have hB : Blk (w.heap.size + 1) #[.int .i64 s.first, .int .i64 0, .int .i64 s.every, .int .i64 s.wd, .slice none 0 0, .slice none 0 0] 80 Z := by rw [hZ]; exact Blk.new' _ _ 80 (by simp)
  have hW : Below w.heap.size w Z := by rw [hZ]; exact (below_box w _).trans ((below_box _ _).mono (by simp))
  clear hZ; refine (HDT.out Z hW).mono ?_
  rintro e x ⟨rfl, hb⟩; have HA1 := Lib.hid (hA.below hb hA.lt)
  have HB1 := Lib.hid (hB.below hb hB.lt)
  have HW1 := Lib.hid (hW.trans (hb.mono hW.size))
  clear hA hB hW hb; have fz := HB1.out.frozen 1; have cz := HB1.out.cell 1; go_upto_region 16 with (fail)
  obtain ⟨X, hX⟩ : ∃ X, X = x.setCell ⟨w.heap.size + 1, 1, none⟩ (.int .i64 s.last) := ⟨_, rfl⟩
  rw [← hX]; have hA : Blk w.heap.size #[.int .i64 0, .int .i64 0, .int .i64 0, .int .i64 0, .slice none 0 0, .slice none 0 0] 80 X := by rw [hX]; exact HA1.out.only (only_set x (w.heap.size + 1) 1 _) (by omega)
  have hB : Blk (w.heap.size + 1) #[.int .i64 s.first, .int .i64 s.last, .int .i64 s.every, .int .i64 s.wd, .slice none 0 0, .slice none 0 0] 80 X := by rw [hX]; exact HB1.out.set 1 _
  have hW : Below w.heap.size w X := by rw [hX]; exact HW1.out.trans ((only_set x (w.heap.size + 1) 1 _).but (b := w.heap.size + 1) (B := w.heap.size + 1) |>.below (by omega) (by omega))
  clear hX fz cz HA1 HB1 HW1; have b0 := hB.cell 0; have b1 := hB.cell 1; have b2 := hB.cell 2; have b3 := hB.cell 3; have b4 := hB.cell 4; have b5 := hB.cell 5; go_wp2_with fail
  refine (HVL.out X).mono ?_
  rintro e x2 ⟨rfl, hb⟩; have hA2 := hA.below hb hA.lt
  have hB2 := hB.below hb hB.lt
  have HW2 := Lib.hid (hW.trans (hb.mono hW.size))
  clear hA hB hW hb b0 b1 b2 b3 b4 b5; have b0 := hB2.cell 0; have b1 := hB2.cell 1; have b2 := hB2.cell 2; have b3 := hB2.cell 3; have b4 := hB2.cell 4; have b5 := hB2.cell 5; have a0 := hA2.frozen 0; have a1 := hA2.frozen 1; have a2 := hA2.frozen 2; have a3 := hA2.frozen 3; have a4 := hA2.frozen 4; have a5 := hA2.frozen 5; have z0 := hA2.cell 0; have z1 := hA2.cell 1; have z2 := hA2.cell 2; have z3 := hA2.cell 3; have z4 := hA2.cell 4; have z5 := hA2.cell 5; go_wp2_with fail
  obtain ⟨Y, hY⟩ : ∃ Y, Y = ((((((x2.setCell ⟨w.heap.size, 0, none⟩ (.int .i64 s.first)).setCell ⟨w.heap.size, 1, none⟩ (.int .i64 s.last)).setCell ⟨w.heap.size, 2, none⟩ (.int .i64 s.every)).setCell ⟨w.heap.size, 3, none⟩ (.int .i64 s.wd)).setCell ⟨w.heap.size, 4, none⟩ (.slice none 0 0)).setCell ⟨w.heap.size, 5, none⟩ (.slice none 0 0)) := ⟨_, rfl⟩
  rw [← hY]; have hYA : Blk w.heap.size #[.int .i64 s.first, .int .i64 s.last, .int .i64 s.every, .int .i64 s.wd, .slice none 0 0, .slice none 0 0] 80 Y := by rw [hY]; exact (((((hA2.set 0 _).set 1 _).set 2 _).set 3 _).set 4 _).set 5 _
  have hYW : Below w.heap.size w Y := by
    have q : ∀ (W : World) (i : Nat) (u : Value), Below w.heap.size w W → Below w.heap.size w (W.setCell ⟨w.heap.size, i, none⟩ u) := fun W i u h => h.trans ((only_set W w.heap.size i u).but (b := w.heap.size) (B := w.heap.size) |>.below (by omega) (by omega))
    rw [hY]
    exact q _ _ _ (q _ _ _ (q _ _ _ (q _ _ _ (q _ _ _ (q _ _ _ HW2.out)))))
  clear hY; have r0 := hYA.cell 0; have r1 := hYA.cell 1; have r2 := hYA.cell 2; have r3 := hYA.cell 3; have r4 := hYA.cell 4; have r5 := hYA.cell 5; simp only [List.getElem?_toArray, List.getElem?_cons_zero, List.getElem?_cons_succ] at r0 r1 r2 r3 r4 r5
  refine bodyPost_ret (v := .tuple #[.agg #[.int .i64 s.first, .int .i64 s.last, .int .i64 s.every, .int .i64 s.wd, .slice none 0 0, .slice none 0 0], .int .i64 0]) (by simp [results, Tryz.results180, go_sem, r0, r1, r2, r3, r4, r5]) rfl ?_
  exact ⟨rfl, hYW⟩
end Go.Proofs.YtageielcdebjlaaGreatDoor
