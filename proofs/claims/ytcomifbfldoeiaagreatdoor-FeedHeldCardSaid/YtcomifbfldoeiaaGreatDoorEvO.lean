/- The event of a session: feed.EventOf, and the reference's. -/
import Derived.Test.YtcomifbfldoeiaaGreatDoorPk15
namespace Go.Proofs.YtcomifbfldoeiaaGreatDoor
open Go.RowKit

theorem evOf_yes {g : Tt.Grd} {t : Tt.Trm} {s : Ses} {q : Int} (h : evB g t s = true) : evOf g t s q = evIs g t s q := by unfold evOf; rw [if_pos h]
theorem code_le {l : List UInt8} (h : Tt.code l = true) : l.length ≤ 16 := by
  cases l with
  | nil => cases h
  | cons a r =>
    unfold Tt.code at h
    rw [Bool.and_eq_true, Bool.and_eq_true] at h
    exact of_decide_eq_true h.1.1
theorem evB_gen {g : Tt.Grd} {t : Tt.Trm} {s : Ses} {q : Int} {e : Ev} {b : Bool} {w : World} {x : Ending} {w' : World} (hb : evB g t s = b) (he : (if b = true then evIs g t s q else evN) = e) (h : RetE e b w x w') : RetE (evOf g t s q) (evB g t s) w x w' := by
  have : evOf g t s q = e := by unfold evOf; rw [hb]; exact he
  rw [this, hb]; exact h
set_option maxHeartbeats 8000000 in
set_option maxRecDepth 100000 in
theorem ev69 (g : Tt.Grd) (t : Tt.Trm) (s : Ses) (q : Int) (ao : Option Addr) (c : Nat) (B : Nat) (w : World) (hB : B ≤ w.heap.size) (hI : Ints B w ao t.hols) (hn : t.hols.length ≤ 4611686018427387903) (hP : Pow w) (h6 : 6 < w.heap.size) : Calls Tryz.prog 43 #[grdVal g, trmVal t (.slice ao t.hols.length c), sesVal s, .int .i64 q] w (RetE (evOf g t s q) (evB g t s) w) := by
  obtain ⟨P, hP2⟩ : ∃ b, b = w.heap.size := ⟨_, rfl⟩
  obtain ⟨Q, hQ⟩ : ∃ b, b = w.heap.size + 1 := ⟨_, rfl⟩
  obtain ⟨M, hM⟩ : ∃ b, b = w.heap.size + 1 + 1 := ⟨_, rfl⟩
  obtain ⟨R, hR⟩ : ∃ b, b = w.heap.size + 1 + 1 + 1 := ⟨_, rfl⟩
  obtain ⟨W, hW⟩ : ∃ W, W = ((((w.alloc (.cells #[.int .i64 g.days, .int .i64 g.slots, .int .i64 g.begin_, .int .i64 g.mins] 91)).alloc (.cells #[.int .i64 t.first, .int .i64 t.weeks, .slice ao t.hols.length c] 94)).alloc (.cells #[.string s.cls, .int .i64 s.tim.weeks, .int .i64 s.tim.day, .int .i64 s.tim.start, .int .i64 s.tim.len, .string s.room] 110)).alloc (.cells #[.string ⟨#[]⟩, .int .i64 0, .bool false, .int .i64 0, .int .i64 0, .int .i64 0, .int .i64 0, .slice none 0 0, .slice none 0 0, .int .i64 0, .int .i64 0, .string ⟨#[]⟩, .string ⟨#[]⟩] 104)) := ⟨_, rfl⟩
  have HBW := Lib.hid (show Below w.heap.size w W from by rw [hW]; exact (((below_box w _).trans ((below_box _ _).mono (by simp))).trans ((below_box _ _).mono (by simp <;> omega))).trans ((below_box _ _).mono (by simp <;> omega)))
  have HBP := Lib.hid (show Blk P #[.int .i64 g.days, .int .i64 g.slots, .int .i64 g.begin_, .int .i64 g.mins] 91 W from by rw [hW, hP2]; exact (((Blk.new' w _ _ rfl).alloc _).alloc _).alloc _)
  have HBQ := Lib.hid (show Blk Q #[.int .i64 t.first, .int .i64 t.weeks, .slice ao t.hols.length c] 94 W from by rw [hW, hQ]; exact ((Blk.new' _ _ _ (by simp)).alloc _).alloc _)
  have HBM := Lib.hid (show Blk M #[.string s.cls, .int .i64 s.tim.weeks, .int .i64 s.tim.day, .int .i64 s.tim.start, .int .i64 s.tim.len, .string s.room] 110 W from by rw [hW, hM]; exact (Blk.new' _ _ _ (by simp)).alloc _)
  have HBR := Lib.hid (show Blk R #[.string ⟨#[]⟩, .int .i64 0, .bool false, .int .i64 0, .int .i64 0, .int .i64 0, .int .i64 0, .slice none 0 0, .slice none 0 0, .int .i64 0, .int .i64 0, .string ⟨#[]⟩, .string ⟨#[]⟩] 104 W from by rw [hW, hR]; exact Blk.new' _ _ _ (by simp))
  have HRW := Lib.hid (show w.heap.size ≤ R by omega)
  have HIW := Lib.hid (show Ints B W ao t.hols from hI.below (HBW.out.mono hB))
  have hBW : B ≤ W.heap.size := Nat.le_trans hB HBW.out.size
  have HPW := Lib.hid (hP.below h6 HBW.out)
  have h6W : 6 < W.heap.size := Nat.lt_of_lt_of_le h6 HBW.out.size
  have HC1 := Lib.hid (show ∀ X, Calls Tryz.prog 78 #[.agg #[.int .i64 g.days, .int .i64 g.slots, .int .i64 g.begin_, .int .i64 g.mins]] X fun e w' => e = .returned (.int .i64 (Tt.gridV g)) ∧ Below X.heap.size X w' from fun X => grid124 g X)
  have HC2 := Lib.hid (show ∀ X, Below W.heap.size W X → Calls Tryz.prog 79 #[.agg #[.int .i64 t.first, .int .i64 t.weeks, .slice ao t.hols.length c]] X fun e w' => e = .returned (.int .i64 (Tt.trmV t)) ∧ Below X.heap.size X w' from fun X hX => trm125 t ao c B X (Nat.le_trans hBW hX.size) (HIW.out.below (hX.mono hBW)) hn)
  have HC3 := Lib.hid (show ∀ X, Calls Tryz.prog 87 #[.agg #[.int .i64 g.days, .int .i64 g.slots, .int .i64 g.begin_, .int .i64 g.mins], .int .i64 t.weeks, .agg #[.int .i64 s.tim.weeks, .int .i64 s.tim.day, .int .i64 s.tim.start, .int .i64 s.tim.len]] X fun e w' => e = .returned (.int .i64 (Tt.fitsV g t.weeks s.tim)) ∧ Below X.heap.size X w' from fun X => fits134 g t.weeks s.tim X)
  have HC4 := Lib.hid (show 0 ≤ s.tim.weeks → s.tim.weeks < 4611686018427387904 → ∀ X, Below W.heap.size W X → Calls Tryz.prog 42 #[.agg #[.int .i64 t.first, .int .i64 t.weeks, .slice ao t.hols.length c], .agg #[.int .i64 s.tim.weeks, .int .i64 s.tim.day, .int .i64 s.tim.start, .int .i64 s.tim.len]] X fun e w' => ∃ v, e = .returned v ∧ RowI X.heap.size w' v (Tt.daysK t s.tim 20) ∧ Below X.heap.size X w' from fun h0 h1 X hX => days73 t s.tim ao c B X (Nat.le_trans hBW hX.size) (HIW.out.below (hX.mono hBW)) hn h0 h1)
  unfold trmVal grdVal sesVal sesCells
  clear hI hB hBW hn hP h6; obtain ⟨gv, hgv⟩ : ∃ v, v = Tt.gridV g := ⟨_, rfl⟩
  rw [← hgv] at HC1
  have HGV := Lib.hid hgv; clear hgv; obtain ⟨tv, htv⟩ : ∃ v, v = Tt.trmV t := ⟨_, rfl⟩
  rw [← htv] at HC2
  have HTV := Lib.hid htv; clear htv; obtain ⟨fv, hfv⟩ : ∃ v, v = Tt.fitsV g t.weeks s.tim := ⟨_, rfl⟩
  rw [← hfv] at HC3
  have HFV := Lib.hid hfv; clear hfv; obtain ⟨cc, hcc⟩ : ∃ v, v = Tt.code s.cls.data.toList := ⟨_, rfl⟩
  have HCC := Lib.hid hcc; clear hcc; obtain ⟨rc, hrc⟩ : ∃ v, v = Tt.code s.room.data.toList := ⟨_, rfl⟩
  have HRC := Lib.hid hrc; clear hrc; have HEB := Lib.hid (show evB g t s = (decide (gv = 0) && (decide (tv = 0) && (cc && ((s.room.toList.isEmpty || rc) && (decide (fv = 0) && !decide (Tt.daysK t s.tim 20 = [])))))) from by unfold evB roomB; rw [HGV.out, HTV.out, HFV.out, HCC.out, HRC.out, Lib.toList_data])
  have p0 : W.cell? ⟨P, 0, none⟩ = some (.int .i64 g.days) := (HBP.out.below (Below.refl W.heap.size W) HBP.out.lt).cell 0
  have p1 : W.cell? ⟨P, 1, none⟩ = some (.int .i64 g.slots) := (HBP.out.below (Below.refl W.heap.size W) HBP.out.lt).cell 1
  have p2 : W.cell? ⟨P, 2, none⟩ = some (.int .i64 g.begin_) := (HBP.out.below (Below.refl W.heap.size W) HBP.out.lt).cell 2
  have p3 : W.cell? ⟨P, 3, none⟩ = some (.int .i64 g.mins) := (HBP.out.below (Below.refl W.heap.size W) HBP.out.lt).cell 3
  have q0 : W.cell? ⟨Q, 0, none⟩ = some (.int .i64 t.first) := (HBQ.out.below (Below.refl W.heap.size W) HBQ.out.lt).cell 0
  have q1 : W.cell? ⟨Q, 1, none⟩ = some (.int .i64 t.weeks) := (HBQ.out.below (Below.refl W.heap.size W) HBQ.out.lt).cell 1
  have q2 : W.cell? ⟨Q, 2, none⟩ = some (.slice ao t.hols.length c) := (HBQ.out.below (Below.refl W.heap.size W) HBQ.out.lt).cell 2
  have m0 : W.cell? ⟨M, 0, none⟩ = some (.string s.cls) := (HBM.out.below (Below.refl W.heap.size W) HBM.out.lt).cell 0
  have m1 : W.cell? ⟨M, 1, none⟩ = some (.int .i64 s.tim.weeks) := (HBM.out.below (Below.refl W.heap.size W) HBM.out.lt).cell 1
  have m2 : W.cell? ⟨M, 2, none⟩ = some (.int .i64 s.tim.day) := (HBM.out.below (Below.refl W.heap.size W) HBM.out.lt).cell 2
  have m3 : W.cell? ⟨M, 3, none⟩ = some (.int .i64 s.tim.start) := (HBM.out.below (Below.refl W.heap.size W) HBM.out.lt).cell 3
  have m4 : W.cell? ⟨M, 4, none⟩ = some (.int .i64 s.tim.len) := (HBM.out.below (Below.refl W.heap.size W) HBM.out.lt).cell 4
  have m5 : W.cell? ⟨M, 5, none⟩ = some (.string s.room) := (HBM.out.below (Below.refl W.heap.size W) HBM.out.lt).cell 5
  go_enter Tryz.func43, Tryz.ntmps43
  go_upto_region 1 with (fail)
  rw [← hW, ← hR, ← hM, ← hQ, ← hP2]; clear hW hP2 hQ hM hR; obtain ⟨ee, hee⟩ : ∃ b, b = s.room.toList.isEmpty := ⟨_, rfl⟩
  rw [← hee] at HEB
  go_cut [37] from 13 to 37 (fun bv wx => ∃ b : Bool, bv = .bool (!b) ∧ Hid ((decide (gv = 0) && (decide (tv = 0) && (cc && ((ee || rc))))) = b) ∧ Hid (Below W.heap.size W wx))
  case first =>
    go_wp2_with fail
    refine (HC1.out _).mono ?_
    rintro e w1 ⟨rfl, hb1⟩; have HB1 := Lib.hid hb1; clear hb1; clear p0 p1 p2 p3 q0 q1 q2 m0 m1 m2 m3 m4 m5; have p0 : w1.cell? ⟨P, 0, none⟩ = some (.int .i64 g.days) := (HBP.out.below HB1.out HBP.out.lt).cell 0
    have p1 : w1.cell? ⟨P, 1, none⟩ = some (.int .i64 g.slots) := (HBP.out.below HB1.out HBP.out.lt).cell 1
    have p2 : w1.cell? ⟨P, 2, none⟩ = some (.int .i64 g.begin_) := (HBP.out.below HB1.out HBP.out.lt).cell 2
    have p3 : w1.cell? ⟨P, 3, none⟩ = some (.int .i64 g.mins) := (HBP.out.below HB1.out HBP.out.lt).cell 3
    have q0 : w1.cell? ⟨Q, 0, none⟩ = some (.int .i64 t.first) := (HBQ.out.below HB1.out HBQ.out.lt).cell 0
    have q1 : w1.cell? ⟨Q, 1, none⟩ = some (.int .i64 t.weeks) := (HBQ.out.below HB1.out HBQ.out.lt).cell 1
    have q2 : w1.cell? ⟨Q, 2, none⟩ = some (.slice ao t.hols.length c) := (HBQ.out.below HB1.out HBQ.out.lt).cell 2
    have m0 : w1.cell? ⟨M, 0, none⟩ = some (.string s.cls) := (HBM.out.below HB1.out HBM.out.lt).cell 0
    have m1 : w1.cell? ⟨M, 1, none⟩ = some (.int .i64 s.tim.weeks) := (HBM.out.below HB1.out HBM.out.lt).cell 1
    have m2 : w1.cell? ⟨M, 2, none⟩ = some (.int .i64 s.tim.day) := (HBM.out.below HB1.out HBM.out.lt).cell 2
    have m3 : w1.cell? ⟨M, 3, none⟩ = some (.int .i64 s.tim.start) := (HBM.out.below HB1.out HBM.out.lt).cell 3
    have m4 : w1.cell? ⟨M, 4, none⟩ = some (.int .i64 s.tim.len) := (HBM.out.below HB1.out HBM.out.lt).cell 4
    have m5 : w1.cell? ⟨M, 5, none⟩ = some (.string s.room) := (HBM.out.below HB1.out HBM.out.lt).cell 5
    by_cases hg : gv = 0
    rotate_left
    · have hgb : (gv != 0) = true := by simp [hg]
      go_wp2_with fail
      go_meet
      exact ⟨false, rfl, Lib.hid (by simp [hg]), HB1⟩
    have hgb : (gv != 0) = false := by simp [hg]
    go_wp2_with fail
    refine (HC2.out _ HB1.out).mono ?_
    rintro e w2 ⟨rfl, hb2⟩; have HB2 := Lib.hid (HB1.out.trans (hb2.mono HB1.out.size))
    clear hb2 HB1; clear p0 p1 p2 p3 q0 q1 q2 m0 m1 m2 m3 m4 m5; have p0 : w2.cell? ⟨P, 0, none⟩ = some (.int .i64 g.days) := (HBP.out.below HB2.out HBP.out.lt).cell 0
    have p1 : w2.cell? ⟨P, 1, none⟩ = some (.int .i64 g.slots) := (HBP.out.below HB2.out HBP.out.lt).cell 1
    have p2 : w2.cell? ⟨P, 2, none⟩ = some (.int .i64 g.begin_) := (HBP.out.below HB2.out HBP.out.lt).cell 2
    have p3 : w2.cell? ⟨P, 3, none⟩ = some (.int .i64 g.mins) := (HBP.out.below HB2.out HBP.out.lt).cell 3
    have q0 : w2.cell? ⟨Q, 0, none⟩ = some (.int .i64 t.first) := (HBQ.out.below HB2.out HBQ.out.lt).cell 0
    have q1 : w2.cell? ⟨Q, 1, none⟩ = some (.int .i64 t.weeks) := (HBQ.out.below HB2.out HBQ.out.lt).cell 1
    have q2 : w2.cell? ⟨Q, 2, none⟩ = some (.slice ao t.hols.length c) := (HBQ.out.below HB2.out HBQ.out.lt).cell 2
    have m0 : w2.cell? ⟨M, 0, none⟩ = some (.string s.cls) := (HBM.out.below HB2.out HBM.out.lt).cell 0
    have m1 : w2.cell? ⟨M, 1, none⟩ = some (.int .i64 s.tim.weeks) := (HBM.out.below HB2.out HBM.out.lt).cell 1
    have m2 : w2.cell? ⟨M, 2, none⟩ = some (.int .i64 s.tim.day) := (HBM.out.below HB2.out HBM.out.lt).cell 2
    have m3 : w2.cell? ⟨M, 3, none⟩ = some (.int .i64 s.tim.start) := (HBM.out.below HB2.out HBM.out.lt).cell 3
    have m4 : w2.cell? ⟨M, 4, none⟩ = some (.int .i64 s.tim.len) := (HBM.out.below HB2.out HBM.out.lt).cell 4
    have m5 : w2.cell? ⟨M, 5, none⟩ = some (.string s.room) := (HBM.out.below HB2.out HBM.out.lt).cell 5
    by_cases ht : tv = 0
    rotate_left
    · have htb : (tv != 0) = true := by simp [ht]
      go_wp2_with fail
      go_meet
      exact ⟨false, rfl, Lib.hid (by simp [hg, ht]), HB2⟩
    have htb : (tv != 0) = false := by simp [ht]
    go_wp2_with fail
    refine (code_any s.cls _).mono ?_
    rintro e w3 ⟨rfl, hx⟩; rw [hx, ← HCC.out]
    clear hx w3; cases cc
    · go_wp2_with fail
      go_meet
      exact ⟨false, rfl, Lib.hid (by simp [hg, ht]), HB2⟩
    cases ee
    rotate_left
    · have hre : s.room.toList.isEmpty = true := hee.symm
      clear hee; go_wp2_with fail
      go_meet
      exact ⟨true, rfl, Lib.hid (by simp [hg, ht]), HB2⟩
    · have hre : s.room.toList.isEmpty = false := hee.symm
      clear hee; go_wp2_with fail
      refine (code_any s.room _).mono ?_
      rintro e w3 ⟨rfl, hx⟩; rw [hx, ← HRC.out]
      clear hx w3; cases rc
      · go_wp2_with fail
        go_meet
        exact ⟨false, rfl, Lib.hid (by simp [hg, ht]), HB2⟩
      go_wp2_with fail
      go_meet
      exact ⟨true, rfl, Lib.hid (by simp [hg, ht]), HB2⟩
  case rest =>
  clear hee; obtain ⟨bb, rfl, HA, HB⟩ := hcut; obtain ⟨w4, hw4⟩ : ∃ X, X = wc := ⟨_, rfl⟩
  rw [← hw4] at HB ⊢
  clear hw4 wc; clear p0 p1 p2 p3 q0 q1 q2 m0 m1 m2 m3 m4 m5; have p0 : w4.cell? ⟨P, 0, none⟩ = some (.int .i64 g.days) := (HBP.out.below HB.out HBP.out.lt).cell 0
  have p1 : w4.cell? ⟨P, 1, none⟩ = some (.int .i64 g.slots) := (HBP.out.below HB.out HBP.out.lt).cell 1
  have p2 : w4.cell? ⟨P, 2, none⟩ = some (.int .i64 g.begin_) := (HBP.out.below HB.out HBP.out.lt).cell 2
  have p3 : w4.cell? ⟨P, 3, none⟩ = some (.int .i64 g.mins) := (HBP.out.below HB.out HBP.out.lt).cell 3
  have q0 : w4.cell? ⟨Q, 0, none⟩ = some (.int .i64 t.first) := (HBQ.out.below HB.out HBQ.out.lt).cell 0
  have q1 : w4.cell? ⟨Q, 1, none⟩ = some (.int .i64 t.weeks) := (HBQ.out.below HB.out HBQ.out.lt).cell 1
  have q2 : w4.cell? ⟨Q, 2, none⟩ = some (.slice ao t.hols.length c) := (HBQ.out.below HB.out HBQ.out.lt).cell 2
  have m0 : w4.cell? ⟨M, 0, none⟩ = some (.string s.cls) := (HBM.out.below HB.out HBM.out.lt).cell 0
  have m1 : w4.cell? ⟨M, 1, none⟩ = some (.int .i64 s.tim.weeks) := (HBM.out.below HB.out HBM.out.lt).cell 1
  have m2 : w4.cell? ⟨M, 2, none⟩ = some (.int .i64 s.tim.day) := (HBM.out.below HB.out HBM.out.lt).cell 2
  have m3 : w4.cell? ⟨M, 3, none⟩ = some (.int .i64 s.tim.start) := (HBM.out.below HB.out HBM.out.lt).cell 3
  have m4 : w4.cell? ⟨M, 4, none⟩ = some (.int .i64 s.tim.len) := (HBM.out.below HB.out HBM.out.lt).cell 4
  have m5 : w4.cell? ⟨M, 5, none⟩ = some (.string s.room) := (HBM.out.below HB.out HBM.out.lt).cell 5
  cases bb
  · have HRr := Lib.hid (HBR.out.below HB.out HBR.out.lt)
    have r0 := HRr.out.frozen 0; have r1 := HRr.out.frozen 1; have r2 := HRr.out.frozen 2; have r3 := HRr.out.frozen 3; have r4 := HRr.out.frozen 4; have r5 := HRr.out.frozen 5; have r6 := HRr.out.frozen 6; have r7 := HRr.out.frozen 7; have r8 := HRr.out.frozen 8; have r9 := HRr.out.frozen 9; have r10 := HRr.out.frozen 10; have r11 := HRr.out.frozen 11; have r12 := HRr.out.frozen 12; have z0 := HRr.out.cell 0; have z1 := HRr.out.cell 1; have z2 := HRr.out.cell 2; have z3 := HRr.out.cell 3; have z4 := HRr.out.cell 4; have z5 := HRr.out.cell 5; have z6 := HRr.out.cell 6; have z7 := HRr.out.cell 7; have z8 := HRr.out.cell 8; have z9 := HRr.out.cell 9; have z10 := HRr.out.cell 10; have z11 := HRr.out.cell 11; have z12 := HRr.out.cell 12; simp only [List.getElem?_toArray, List.getElem?_cons_zero, List.getElem?_cons_succ] at z0 z1 z2 z3 z4 z5 z6 z7 z8 z9 z10 z11 z12
    go_wp2_with fail
    obtain ⟨Y, hY, hBk, hE⟩ := fill13 HRr.out rfl (HBW.out.trans (HB.out.mono HBW.out.size)) HRW.out (.string ⟨#[]⟩) (.int .i64 0) (.bool false) (.int .i64 0) (.int .i64 0) (.int .i64 0) (.int .i64 0) (.slice none 0 0) (.slice none 0 0) (.int .i64 0) (.int .i64 0) (.string ⟨#[]⟩) (.string ⟨#[]⟩)
    simp only [setAll, Nat.zero_add] at hY
    rw [← hY]; clear hY r0 z0 r1 z1 r2 z2 r3 z3 r4 z4 r5 z5 r6 z6 r7 z7 r8 z8 r9 z9 r10 z10 r11 z11 r12 z12; have r0 := hBk.cell 0; have r1 := hBk.cell 1; have r2 := hBk.cell 2; have r3 := hBk.cell 3; have r4 := hBk.cell 4; have r5 := hBk.cell 5; have r6 := hBk.cell 6; have r7 := hBk.cell 7; have r8 := hBk.cell 8; have r9 := hBk.cell 9; have r10 := hBk.cell 10; have r11 := hBk.cell 11; have r12 := hBk.cell 12; simp only [List.getElem?_toArray, List.getElem?_cons_zero, List.getElem?_cons_succ] at r0 r1 r2 r3 r4 r5 r6 r7 r8 r9 r10 r11 r12
    refine bodyPost_ret (v := .tuple #[.agg #[.string ⟨#[]⟩, .int .i64 0, .bool false, .int .i64 0, .int .i64 0, .int .i64 0, .int .i64 0, .slice none 0 0, .slice none 0 0, .int .i64 0, .int .i64 0, .string ⟨#[]⟩, .string ⟨#[]⟩], .bool false]) (by simp [results, Tryz.results43, go_sem, r0, r1, r2, r3, r4, r5, r6, r7, r8, r9, r10, r11, r12]) rfl ?_
    exact evB_gen (b := false) (by rw [HEB.out]; have h := HA.out; revert h; cases (decide (gv = 0)) <;> cases (decide (tv = 0)) <;> cases cc <;> cases ee <;> cases rc <;> cases (decide (fv = 0)) <;> simp) rfl ⟨none, none, 0, 0, rfl, RowI.nil _ _, RowI.nil _ _, hE⟩
  have hcs : gv = 0 ∧ tv = 0 ∧ cc = true ∧ (ee || rc) = true := by have h := HA.out; simp only [Bool.and_eq_true, decide_eq_true_eq] at h; exact h
  obtain ⟨hg, ht, hcc, her⟩ := hcs; go_wp2_with fail
  refine (HC3.out _).mono ?_
  rintro e w5 ⟨rfl, hb5⟩; have HB5 := Lib.hid (HB.out.trans (hb5.mono HB.out.size))
  clear hb5 HB; clear p0 p1 p2 p3 q0 q1 q2 m0 m1 m2 m3 m4 m5; obtain ⟨HB, hHB⟩ : ∃ h, h = HB5 := ⟨_, rfl⟩
  clear hHB HB5; obtain ⟨w4, hw4⟩ : ∃ X, X = w5 := ⟨_, rfl⟩
  rw [← hw4] at HB ⊢
  clear hw4 w5; have p0 : w4.cell? ⟨P, 0, none⟩ = some (.int .i64 g.days) := (HBP.out.below HB.out HBP.out.lt).cell 0
  have p1 : w4.cell? ⟨P, 1, none⟩ = some (.int .i64 g.slots) := (HBP.out.below HB.out HBP.out.lt).cell 1
  have p2 : w4.cell? ⟨P, 2, none⟩ = some (.int .i64 g.begin_) := (HBP.out.below HB.out HBP.out.lt).cell 2
  have p3 : w4.cell? ⟨P, 3, none⟩ = some (.int .i64 g.mins) := (HBP.out.below HB.out HBP.out.lt).cell 3
  have q0 : w4.cell? ⟨Q, 0, none⟩ = some (.int .i64 t.first) := (HBQ.out.below HB.out HBQ.out.lt).cell 0
  have q1 : w4.cell? ⟨Q, 1, none⟩ = some (.int .i64 t.weeks) := (HBQ.out.below HB.out HBQ.out.lt).cell 1
  have q2 : w4.cell? ⟨Q, 2, none⟩ = some (.slice ao t.hols.length c) := (HBQ.out.below HB.out HBQ.out.lt).cell 2
  have m0 : w4.cell? ⟨M, 0, none⟩ = some (.string s.cls) := (HBM.out.below HB.out HBM.out.lt).cell 0
  have m1 : w4.cell? ⟨M, 1, none⟩ = some (.int .i64 s.tim.weeks) := (HBM.out.below HB.out HBM.out.lt).cell 1
  have m2 : w4.cell? ⟨M, 2, none⟩ = some (.int .i64 s.tim.day) := (HBM.out.below HB.out HBM.out.lt).cell 2
  have m3 : w4.cell? ⟨M, 3, none⟩ = some (.int .i64 s.tim.start) := (HBM.out.below HB.out HBM.out.lt).cell 3
  have m4 : w4.cell? ⟨M, 4, none⟩ = some (.int .i64 s.tim.len) := (HBM.out.below HB.out HBM.out.lt).cell 4
  have m5 : w4.cell? ⟨M, 5, none⟩ = some (.string s.room) := (HBM.out.below HB.out HBM.out.lt).cell 5
  by_cases hf : fv = 0
  rotate_left
  · have hfb : (fv != 0) = true := by simp [hf]
    have HRr := Lib.hid (HBR.out.below HB.out HBR.out.lt)
    have r0 := HRr.out.frozen 0; have r1 := HRr.out.frozen 1; have r2 := HRr.out.frozen 2; have r3 := HRr.out.frozen 3; have r4 := HRr.out.frozen 4; have r5 := HRr.out.frozen 5; have r6 := HRr.out.frozen 6; have r7 := HRr.out.frozen 7; have r8 := HRr.out.frozen 8; have r9 := HRr.out.frozen 9; have r10 := HRr.out.frozen 10; have r11 := HRr.out.frozen 11; have r12 := HRr.out.frozen 12; have z0 := HRr.out.cell 0; have z1 := HRr.out.cell 1; have z2 := HRr.out.cell 2; have z3 := HRr.out.cell 3; have z4 := HRr.out.cell 4; have z5 := HRr.out.cell 5; have z6 := HRr.out.cell 6; have z7 := HRr.out.cell 7; have z8 := HRr.out.cell 8; have z9 := HRr.out.cell 9; have z10 := HRr.out.cell 10; have z11 := HRr.out.cell 11; have z12 := HRr.out.cell 12; simp only [List.getElem?_toArray, List.getElem?_cons_zero, List.getElem?_cons_succ] at z0 z1 z2 z3 z4 z5 z6 z7 z8 z9 z10 z11 z12
    go_wp2_with fail
    obtain ⟨Y, hY, hBk, hE⟩ := fill13 HRr.out rfl (HBW.out.trans (HB.out.mono HBW.out.size)) HRW.out (.string ⟨#[]⟩) (.int .i64 0) (.bool false) (.int .i64 0) (.int .i64 0) (.int .i64 0) (.int .i64 0) (.slice none 0 0) (.slice none 0 0) (.int .i64 0) (.int .i64 0) (.string ⟨#[]⟩) (.string ⟨#[]⟩)
    simp only [setAll, Nat.zero_add] at hY
    rw [← hY]; clear hY r0 z0 r1 z1 r2 z2 r3 z3 r4 z4 r5 z5 r6 z6 r7 z7 r8 z8 r9 z9 r10 z10 r11 z11 r12 z12; have r0 := hBk.cell 0; have r1 := hBk.cell 1; have r2 := hBk.cell 2; have r3 := hBk.cell 3; have r4 := hBk.cell 4; have r5 := hBk.cell 5; have r6 := hBk.cell 6; have r7 := hBk.cell 7; have r8 := hBk.cell 8; have r9 := hBk.cell 9; have r10 := hBk.cell 10; have r11 := hBk.cell 11; have r12 := hBk.cell 12; simp only [List.getElem?_toArray, List.getElem?_cons_zero, List.getElem?_cons_succ] at r0 r1 r2 r3 r4 r5 r6 r7 r8 r9 r10 r11 r12
    refine bodyPost_ret (v := .tuple #[.agg #[.string ⟨#[]⟩, .int .i64 0, .bool false, .int .i64 0, .int .i64 0, .int .i64 0, .int .i64 0, .slice none 0 0, .slice none 0 0, .int .i64 0, .int .i64 0, .string ⟨#[]⟩, .string ⟨#[]⟩], .bool false]) (by simp [results, Tryz.results43, go_sem, r0, r1, r2, r3, r4, r5, r6, r7, r8, r9, r10, r11, r12]) rfl ?_
    exact evB_gen (b := false) (by rw [HEB.out]; simp [hg, ht, hcc, her, hf]) rfl ⟨none, none, 0, 0, rfl, RowI.nil _ _, RowI.nil _ _, hE⟩
  have hfb : (fv != 0) = false := by simp [hf]
  obtain ⟨hso, hsl⟩ := Tt.fits_parts (HFV.out.symm.trans hf)
  obtain ⟨hwk, -, -, hs0, hs1, hl0, hl1⟩ := (Tt.soundB_iff _).1 hso
  obtain ⟨hw0, hw1⟩ := Tt.weeks_bd hwk
  obtain ⟨g0, g1, g2, g3, g4, g5⟩ := Tt.grid_parts (HGV.out.symm.trans hg)
  obtain ⟨x0, x1⟩ := Tt.mul_bd (s := s.tim.start) (m := g.mins) (by omega) (by omega) g4 g5
  obtain ⟨y0, y1⟩ := Tt.mul_bd (s := s.tim.len) (m := g.mins) (by omega) (by omega) g4 g5
  have HWK := Lib.hid hwk; have HEC := Lib.hid (show evB g t s = !decide (Tt.daysK t s.tim 20 = []) from by rw [HEB.out]; simp [hg, ht, hcc, her, hf])
  have hcz : s.cls.size ≤ 16 := by rw [Lib.size_eq]; exact code_le (HCC.out.symm.trans hcc)
  clear hg ht hcc her hf hwk hso; have HC4 := Lib.hid (HC4.out (by omega) (by omega))
  go_wp2_with fail
  refine (HC4.out _ HB.out).mono ?_
  rintro e w5 ⟨v, rfl, hv5, hb5⟩; have HB5 := Lib.hid (HB.out.trans (hb5.mono HB.out.size))
  have HV := Lib.hid hv5; clear hb5 hv5 HB; clear p0 p1 p2 p3 q0 q1 q2 m0 m1 m2 m3 m4 m5; obtain ⟨ds, hds⟩ : ∃ l, l = Tt.daysK t s.tim 20 := ⟨_, rfl⟩
  rw [← hds] at HEC HV
  have HDS := Lib.hid hds; obtain ⟨dao, dc, hdv, hdi⟩ := HV.out.ints
  subst hdv; have HDI := Lib.hid hdi; have hdn : ds.length ≤ 20 := by rw [hds]; exact Tt.daysK_len _ _ _
  clear hds hdi HV; have p0 : w5.cell? ⟨P, 0, none⟩ = some (.int .i64 g.days) := (HBP.out.below HB5.out HBP.out.lt).cell 0
  have p1 : w5.cell? ⟨P, 1, none⟩ = some (.int .i64 g.slots) := (HBP.out.below HB5.out HBP.out.lt).cell 1
  have p2 : w5.cell? ⟨P, 2, none⟩ = some (.int .i64 g.begin_) := (HBP.out.below HB5.out HBP.out.lt).cell 2
  have p3 : w5.cell? ⟨P, 3, none⟩ = some (.int .i64 g.mins) := (HBP.out.below HB5.out HBP.out.lt).cell 3
  have q0 : w5.cell? ⟨Q, 0, none⟩ = some (.int .i64 t.first) := (HBQ.out.below HB5.out HBQ.out.lt).cell 0
  have q1 : w5.cell? ⟨Q, 1, none⟩ = some (.int .i64 t.weeks) := (HBQ.out.below HB5.out HBQ.out.lt).cell 1
  have q2 : w5.cell? ⟨Q, 2, none⟩ = some (.slice ao t.hols.length c) := (HBQ.out.below HB5.out HBQ.out.lt).cell 2
  have m0 : w5.cell? ⟨M, 0, none⟩ = some (.string s.cls) := (HBM.out.below HB5.out HBM.out.lt).cell 0
  have m1 : w5.cell? ⟨M, 1, none⟩ = some (.int .i64 s.tim.weeks) := (HBM.out.below HB5.out HBM.out.lt).cell 1
  have m2 : w5.cell? ⟨M, 2, none⟩ = some (.int .i64 s.tim.day) := (HBM.out.below HB5.out HBM.out.lt).cell 2
  have m3 : w5.cell? ⟨M, 3, none⟩ = some (.int .i64 s.tim.start) := (HBM.out.below HB5.out HBM.out.lt).cell 3
  have m4 : w5.cell? ⟨M, 4, none⟩ = some (.int .i64 s.tim.len) := (HBM.out.below HB5.out HBM.out.lt).cell 4
  have m5 : w5.cell? ⟨M, 5, none⟩ = some (.string s.room) := (HBM.out.below HB5.out HBM.out.lt).cell 5
  by_cases hne : ds = []
  · subst hne; go_wp2_with fail
    refine (of135_nil dao dc w5).mono ?_
    rintro e w6 ⟨p, p', k, k', rfl, -, -, hb6⟩; have HB6 := Lib.hid (HB5.out.trans (hb6.mono HB5.out.size))
    clear hb6; unfold serVal
    obtain ⟨w8, hw8⟩ : ∃ X, X = w6.alloc (.cells #[.int .i64 Tt.zeroS.first, .int .i64 Tt.zeroS.last, .int .i64 Tt.zeroS.every, .int .i64 Tt.zeroS.wd, .slice p Tt.zeroS.ex.length k, .slice p' Tt.zeroS.xt.length k'] 102) := ⟨_, rfl⟩
    have HB8 := Lib.hid (show Below W.heap.size W w8 from by rw [hw8]; exact HB6.out.alloc HB6.out.size _)
    go_upto_region 6 with (fail)
    rw [← hw8]; clear hw8; have HRr := Lib.hid (HBR.out.below HB8.out HBR.out.lt)
    have r0 := HRr.out.frozen 0; have r1 := HRr.out.frozen 1; have r2 := HRr.out.frozen 2; have r3 := HRr.out.frozen 3; have r4 := HRr.out.frozen 4; have r5 := HRr.out.frozen 5; have r6 := HRr.out.frozen 6; have r7 := HRr.out.frozen 7; have r8 := HRr.out.frozen 8; have r9 := HRr.out.frozen 9; have r10 := HRr.out.frozen 10; have r11 := HRr.out.frozen 11; have r12 := HRr.out.frozen 12; have z0 := HRr.out.cell 0; have z1 := HRr.out.cell 1; have z2 := HRr.out.cell 2; have z3 := HRr.out.cell 3; have z4 := HRr.out.cell 4; have z5 := HRr.out.cell 5; have z6 := HRr.out.cell 6; have z7 := HRr.out.cell 7; have z8 := HRr.out.cell 8; have z9 := HRr.out.cell 9; have z10 := HRr.out.cell 10; have z11 := HRr.out.cell 11; have z12 := HRr.out.cell 12; simp only [List.getElem?_toArray, List.getElem?_cons_zero, List.getElem?_cons_succ] at z0 z1 z2 z3 z4 z5 z6 z7 z8 z9 z10 z11 z12
    go_wp2_with fail
    obtain ⟨Y, hY, hBk, hE⟩ := fill13 HRr.out rfl (HBW.out.trans (HB8.out.mono HBW.out.size)) HRW.out (.string ⟨#[]⟩) (.int .i64 0) (.bool false) (.int .i64 0) (.int .i64 0) (.int .i64 0) (.int .i64 0) (.slice none 0 0) (.slice none 0 0) (.int .i64 0) (.int .i64 0) (.string ⟨#[]⟩) (.string ⟨#[]⟩)
    simp only [setAll, Nat.zero_add] at hY
    rw [← hY]; clear hY r0 z0 r1 z1 r2 z2 r3 z3 r4 z4 r5 z5 r6 z6 r7 z7 r8 z8 r9 z9 r10 z10 r11 z11 r12 z12; have r0 := hBk.cell 0; have r1 := hBk.cell 1; have r2 := hBk.cell 2; have r3 := hBk.cell 3; have r4 := hBk.cell 4; have r5 := hBk.cell 5; have r6 := hBk.cell 6; have r7 := hBk.cell 7; have r8 := hBk.cell 8; have r9 := hBk.cell 9; have r10 := hBk.cell 10; have r11 := hBk.cell 11; have r12 := hBk.cell 12; simp only [List.getElem?_toArray, List.getElem?_cons_zero, List.getElem?_cons_succ] at r0 r1 r2 r3 r4 r5 r6 r7 r8 r9 r10 r11 r12
    refine bodyPost_ret (v := .tuple #[.agg #[.string ⟨#[]⟩, .int .i64 0, .bool false, .int .i64 0, .int .i64 0, .int .i64 0, .int .i64 0, .slice none 0 0, .slice none 0 0, .int .i64 0, .int .i64 0, .string ⟨#[]⟩, .string ⟨#[]⟩], .bool false]) (by simp [results, Tryz.results43, go_sem, r0, r1, r2, r3, r4, r5, r6, r7, r8, r9, r10, r11, r12]) rfl ?_
    exact evB_gen (b := false) (by rw [HEB.out]; rw [← HEB.out, HEC.out]; rfl) rfl ⟨none, none, 0, 0, rfl, RowI.nil _ _, RowI.nil _ _, hE⟩
  have HCO := Lib.hid (show Calls Tryz.prog 88 #[.slice dao ds.length dc] w5 (RetC (Tt.ofV ds) 0 w5) from of135 ds dao dc w5.heap.size w5 (by rw [HDS.out]; exact Tt.daysK_ok _ _ (by rw [← HDS.out]; exact hne)) (by rw [HDS.out]; exact Tt.daysK_asc _ _ _) (Nat.le_refl _) HDI.out)
  go_wp2_with fail
  refine HCO.out.mono ?_
  rintro e w6 ⟨p, p', k1, k2, rfl, hx, hy, hb6⟩; have HB6 := Lib.hid (HB5.out.trans (hb6.mono HB5.out.size))
  have HX := Lib.hid hx; have HY := Lib.hid hy; clear hb6 hx hy p0 p1 p2 p3 q0 q1 q2 m0 m1 m2 m3 m4 m5; unfold serVal
  have HEY := Lib.hid (show evB g t s = true from by rw [HEC.out]; simp [hne])
  clear HEC HCO; obtain ⟨r, hr⟩ : ∃ r, r = Tt.ofV ds := ⟨_, rfl⟩
  rw [← hr] at HX HY
  rw [← hr]; have HRR := Lib.hid hr; clear hr; obtain ⟨T, hT⟩ : ∃ b, b = w6.heap.size := ⟨_, rfl⟩
  obtain ⟨w7, hw7⟩ : ∃ X, X = w6.alloc (.cells #[.int .i64 r.first, .int .i64 r.last, .int .i64 r.every, .int .i64 r.wd, .slice p r.ex.length k1, .slice p' r.xt.length k2] 102) := ⟨_, rfl⟩
  have HBT := Lib.hid (show Blk T #[.int .i64 r.first, .int .i64 r.last, .int .i64 r.every, .int .i64 r.wd, .slice p r.ex.length k1, .slice p' r.xt.length k2] 102 w7 from by rw [hw7, hT]; exact Blk.new w6 _ _)
  have HX7 := Lib.hid (show RowI w5.heap.size w7 (.slice p r.ex.length k1) r.ex from by rw [hw7]; exact World.ownsRow.alloc HX.out _)
  have HY7 := Lib.hid (show RowI w5.heap.size w7 (.slice p' r.xt.length k2) r.xt from by rw [hw7]; exact World.ownsRow.alloc HY.out _)
  have HB7 := Lib.hid (show Below W.heap.size W w7 from by rw [hw7]; exact HB6.out.alloc HB6.out.size _)
  have HTR := Lib.hid (show R ≠ T from by have := HBR.out.lt; have := HB6.out.size; omega)
  have HW5 := Lib.hid (show w.heap.size ≤ w5.heap.size from Nat.le_trans HBW.out.size HB5.out.size)
  go_upto_region 6 with (fail)
  rw [← hw7, ← hT]; clear hw7 hT HX HY HB6 HB5; go_wp2_with fail
  obtain ⟨K, hK⟩ : ∃ K, K = Tt.lowB s.tim.weeks 20 0 := ⟨_, rfl⟩
  have HK0 := Lib.hid hK; clear hK; have HBN := Lib.hid (fun k : Int => bit_not s.tim.weeks k (by omega) (by omega))
  have HWB := Lib.hid hw1; have hwn : 0 ≤ s.tim.weeks := by omega
  go_loopw [12] (fun iv wr => ∃ k : Nat, iv = .int .i64 ((k : Int) + 1) ∧ k ≤ 20 ∧ Hid (Tt.lowB s.tim.weeks (20 - k) k = K) ∧ Hid (∀ i : Nat, i < k → Tt.bit s.tim.weeks i = false) ∧ Hid (wr = w7)) (fun iv _ => 30 - (intOf iv).toNat)
  case atStart => exact ⟨0, rfl, by omega, Lib.hid HK0.out.symm, Lib.hid (fun i h => by omega), Lib.hid (by first | trivial | rfl)⟩
  case round =>
    obtain ⟨k, rfl, hk, HLO, HAL, HWR⟩ := hrel; have hwr := HWR.out; subst hwr; clear HWR; have hk20 : k < 20 := by
      rcases Nat.lt_or_ge k 20 with h | h
      · exact h
      · obtain rfl : k = 20 := by omega
        exact absurd HAL.out (Tt.weeks_some HWK.out)
    have hk0 : (0 : Int) ≤ (k : Int) := by omega
    have hkl : (k : Int) < 20 := by omega
    have p0 : wr.cell? ⟨P, 0, none⟩ = some (.int .i64 g.days) := (HBP.out.below HB7.out HBP.out.lt).cell 0
    have p1 : wr.cell? ⟨P, 1, none⟩ = some (.int .i64 g.slots) := (HBP.out.below HB7.out HBP.out.lt).cell 1
    have p2 : wr.cell? ⟨P, 2, none⟩ = some (.int .i64 g.begin_) := (HBP.out.below HB7.out HBP.out.lt).cell 2
    have p3 : wr.cell? ⟨P, 3, none⟩ = some (.int .i64 g.mins) := (HBP.out.below HB7.out HBP.out.lt).cell 3
    have q0 : wr.cell? ⟨Q, 0, none⟩ = some (.int .i64 t.first) := (HBQ.out.below HB7.out HBQ.out.lt).cell 0
    have q1 : wr.cell? ⟨Q, 1, none⟩ = some (.int .i64 t.weeks) := (HBQ.out.below HB7.out HBQ.out.lt).cell 1
    have q2 : wr.cell? ⟨Q, 2, none⟩ = some (.slice ao t.hols.length c) := (HBQ.out.below HB7.out HBQ.out.lt).cell 2
    have m0 : wr.cell? ⟨M, 0, none⟩ = some (.string s.cls) := (HBM.out.below HB7.out HBM.out.lt).cell 0
    have m1 : wr.cell? ⟨M, 1, none⟩ = some (.int .i64 s.tim.weeks) := (HBM.out.below HB7.out HBM.out.lt).cell 1
    have m2 : wr.cell? ⟨M, 2, none⟩ = some (.int .i64 s.tim.day) := (HBM.out.below HB7.out HBM.out.lt).cell 2
    have m3 : wr.cell? ⟨M, 3, none⟩ = some (.int .i64 s.tim.start) := (HBM.out.below HB7.out HBM.out.lt).cell 3
    have m4 : wr.cell? ⟨M, 4, none⟩ = some (.int .i64 s.tim.len) := (HBM.out.below HB7.out HBM.out.lt).cell 4
    have m5 : wr.cell? ⟨M, 5, none⟩ = some (.string s.room) := (HBM.out.below HB7.out HBM.out.lt).cell 5
    have hbn := HBN.out (k : Int)
    rw [show ((k : Int)).toNat = k from Int.toNat_natCast k] at hbn
    obtain ⟨b, hb⟩ : ∃ b, b = Tt.bit s.tim.weeks (k : Int) := ⟨_, rfl⟩
    rw [← hb] at hbn
    have HBT2 := Lib.hid hb; clear hb; cases b
    · have hbn : (bits .and .i64 (s.tim.weeks / 2 ^ k) 1 == 0) = true := hbn
      have HL2 := Lib.hid ((Tt.lowB_step s.tim.weeks k hk20 HBT2.out.symm).symm.trans HLO.out)
      have HA2 := Lib.hid (show ∀ i : Nat, i < k + 1 → Tt.bit s.tim.weeks i = false from fun i h => by
        rcases Nat.lt_or_ge i k with h2 | h2
        · exact HAL.out i h2
        · obtain rfl : i = k := by omega
          exact HBT2.out.symm)
      go_wp2_with fail
      go_roundw
      case rel => exact ⟨k + 1, by go_num, by omega, HL2, HA2, Lib.hid (by first | trivial | rfl)⟩
      case measure => simp [intOf]; omega
    have hbn : (bits .and .i64 (s.tim.weeks / 2 ^ k) 1 == 0) = false := hbn
    obtain rfl : k = K := (Tt.lowB_end s.tim.weeks k hk20 HBT2.out.symm).symm.trans HLO.out
    obtain ⟨U, hU⟩ : ∃ U, U = (⟨(Lib.decDigits (k + 1)).toArray⟩ : ByteArray) := ⟨_, rfl⟩
    have HCD := Lib.hid (show ∀ X, Below wr.heap.size wr X → Calls Tryz.prog 89 #[.int .i64 ((k : Int) + 1)] X fun e w' => e = .returned (.string U) ∧ Below X.heap.size X w' from fun X hX => by have h := itoa136 ((k : Int) + 1) X (HPW.out.below h6W (HB7.out.trans (hX.mono HB7.out.size))) (by omega) (by omega); rw [show ((k : Int) + 1).toNat = k + 1 by omega, ← hU] at h; exact h)
    have hUz : U.size ≤ 21 := by rw [hU, size_mk]; exact Tt.dec_len 20 _ (by omega)
    have hcs : (s.cls ++ (⟨#[64]⟩ : ByteArray)).size = s.cls.size + 1 := by rw [ByteArray.size_append]; rfl
    have HU := Lib.hid hU; clear hU; have hwm : IntKind.i64.wrap (s.tim.start * g.mins) = s.tim.start * g.mins := by rw [IntKind.wrap_i64]; omega
    have hwn2 : IntKind.i64.wrap (s.tim.len * g.mins) = s.tim.len * g.mins := by rw [IntKind.wrap_i64]; omega
    have hwa : IntKind.i64.wrap (g.begin_ + s.tim.start * g.mins) = g.begin_ + s.tim.start * g.mins := by rw [IntKind.wrap_i64]; omega
    go_upto_region 11 with (fail)
    clear p0 p1 p2 p3 q0 q1 q2 m0 m1 m2 m3 m4 m5; have HP9 := Lib.hid (show Blk P #[.int .i64 g.days, .int .i64 g.slots, .int .i64 g.begin_, .int .i64 g.mins] 91 wr from HBP.out.below HB7.out HBP.out.lt)
    have HQ9 := Lib.hid (show Blk Q #[.int .i64 t.first, .int .i64 t.weeks, .slice ao t.hols.length c] 94 wr from HBQ.out.below HB7.out HBQ.out.lt)
    have HM9 := Lib.hid (show Blk M #[.string s.cls, .int .i64 s.tim.weeks, .int .i64 s.tim.day, .int .i64 s.tim.start, .int .i64 s.tim.len, .string s.room] 110 wr from HBM.out.below HB7.out HBM.out.lt)
    have HFR := Lib.hid (show ∀ W' : World, Below wr.heap.size wr W' → Blk R #[.string ⟨#[]⟩, .int .i64 0, .bool false, .int .i64 0, .int .i64 0, .int .i64 0, .int .i64 0, .slice none 0 0, .slice none 0 0, .int .i64 0, .int .i64 0, .string ⟨#[]⟩, .string ⟨#[]⟩] 104 W' from fun W' hW => HBR.out.below (HB7.out.trans (hW.mono HB7.out.size)) HBR.out.lt)
    refine wp_region_tail 27 (by kernel_rfl) (fun listed a x => ∃ (l0 l1 l2 l3 l4 l5 l6 l7 l8 l9 l10 l11 l12 l13 l14 l15 l16 l17 l18 l19 l20 l21 l22 l23 l24 l25 l26 : Bool) (t68 t69 t70 t71 t72 t73 t74 t75 t76 t77 t78 t79 t80 t81 t82 t83 t84 t85 t86 t87 t88 t89 t90 t91 t92 t93 t94 : Value), listed = #[l0, l1, l2, l3, l4, l5, l6, l7, l8, l9, l10, l11, l12, l13, l14, l15, l16, l17, l18, l19, l20, l21, l22, l23, l24, l25, l26, false, false, false] ∧ a = ⟨(.agg #[.int .i64 g.days, .int .i64 g.slots, .int .i64 g.begin_, .int .i64 g.mins] :: .agg #[.int .i64 t.first, .int .i64 t.weeks, .slice ao t.hols.length c] :: .agg #[.string s.cls, .int .i64 s.tim.weeks, .int .i64 s.tim.day, .int .i64 s.tim.start, .int .i64 s.tim.len, .string s.room] :: .int .i64 q :: .pointer (some ⟨P, 0, none⟩) :: .pointer (some ⟨Q, 0, none⟩) :: .pointer (some ⟨M, 0, none⟩) :: undef :: .pointer (some ⟨R, 0, none⟩) :: .bool false :: .pointer (some ⟨T, 0, none⟩) :: .int .i64 0 :: .int .i64 ((k : Int) + 1) :: u13 :: u14 :: u15 :: u16 :: u17 :: u18 :: u19 :: u20 :: u21 :: u22 :: u23 :: u24 :: u25 :: u26 :: u27 :: u28 :: u29 :: u30 :: u31 :: u32 :: u33 :: u34 :: u35 :: u36 :: .bool false :: undef :: .agg #[.int .i64 g.days, .int .i64 g.slots, .int .i64 g.begin_, .int .i64 g.mins] :: .pointer (some ⟨Q, 1, none⟩) :: .int .i64 t.weeks :: .pointer (some ⟨M, 1, none⟩) :: .agg #[.int .i64 s.tim.weeks, .int .i64 s.tim.day, .int .i64 s.tim.start, .int .i64 s.tim.len] :: .int .i64 fv :: .bool false :: undef :: .tuple #[.agg #[.int .i64 r.first, .int .i64 r.last, .int .i64 r.every, .int .i64 r.wd, .slice p r.ex.length k1, .slice p' r.xt.length k2], .int .i64 0] :: .agg #[.int .i64 t.first, .int .i64 t.weeks, .slice ao t.hols.length c] :: .pointer (some ⟨M, 1, none⟩) :: .agg #[.int .i64 s.tim.weeks, .int .i64 s.tim.day, .int .i64 s.tim.start, .int .i64 s.tim.len] :: .slice dao ds.length dc :: .tuple #[.agg #[.int .i64 r.first, .int .i64 r.last, .int .i64 r.every, .int .i64 r.wd, .slice p r.ex.length k1, .slice p' r.xt.length k2], .int .i64 0] :: .agg #[.int .i64 r.first, .int .i64 r.last, .int .i64 r.every, .int .i64 r.wd, .slice p r.ex.length k1, .slice p' r.xt.length k2] :: .int .i64 0 :: .int .i64 0 :: .bool false :: undef :: .pointer (some ⟨M, 1, none⟩) :: .pointer (some ⟨M, 1, none⟩) :: .int .i64 s.tim.weeks :: .int .i64 ((k : Int) + 1) :: .int .i64 k :: .int .i64 (s.tim.weeks / 2 ^ k) :: .int .i64 (bits .and .i64 (s.tim.weeks / 2 ^ k) 1) :: .bool false :: u66 :: u67 :: t68 :: t69 :: t70 :: t71 :: t72 :: t73 :: t74 :: t75 :: t76 :: t77 :: t78 :: t79 :: t80 :: t81 :: t82 :: t83 :: t84 :: t85 :: t86 :: t87 :: t88 :: t89 :: t90 :: t91 :: t92 :: t93 :: t94 :: undef :: []).toArray, []⟩ ∧ Hid (l0 = true → t68 = .pointer (some ⟨M, 0, none⟩)) ∧ Hid (l1 = true → t69 = .string s.cls) ∧ Hid (l2 = true → t70 = .string (s.cls ++ ⟨#[64]⟩)) ∧ Hid (l3 = true → t71 = .int .i64 ((k : Int) + 1)) ∧ Hid (l4 = true → t72 = .string U) ∧ Hid (l5 = true → t73 = .string (s.cls ++ ⟨#[64]⟩ ++ U)) ∧ Hid (l6 = true → t74 = .int .i64 q) ∧ Hid (l7 = true → t75 = .agg #[.int .i64 r.first, .int .i64 r.last, .int .i64 r.every, .int .i64 r.wd, .slice p r.ex.length k1, .slice p' r.xt.length k2]) ∧ Hid (l8 = true → t76 = .pointer (some ⟨P, 2, none⟩)) ∧ Hid (l9 = true → t77 = .int .i64 g.begin_) ∧ Hid (l10 = true → t78 = .pointer (some ⟨M, 1, none⟩)) ∧ Hid (l11 = true → t79 = .pointer (some ⟨M, 3, none⟩)) ∧ Hid (l12 = true → t80 = .int .i64 s.tim.start) ∧ Hid (l13 = true → t81 = .pointer (some ⟨P, 3, none⟩)) ∧ Hid (l14 = true → t82 = .int .i64 g.mins) ∧ Hid (l15 = true → t83 = .int .i64 (s.tim.start * g.mins)) ∧ Hid (l16 = true → t84 = .int .i64 (g.begin_ + s.tim.start * g.mins)) ∧ Hid (l17 = true → t85 = .pointer (some ⟨M, 1, none⟩)) ∧ Hid (l18 = true → t86 = .pointer (some ⟨M, 4, none⟩)) ∧ Hid (l19 = true → t87 = .int .i64 s.tim.len) ∧ Hid (l20 = true → t88 = .pointer (some ⟨P, 3, none⟩)) ∧ Hid (l21 = true → t89 = .int .i64 g.mins) ∧ Hid (l22 = true → t90 = .int .i64 (s.tim.len * g.mins)) ∧ Hid (l23 = true → t91 = .pointer (some ⟨M, 0, none⟩)) ∧ Hid (l24 = true → t92 = .string s.cls) ∧ Hid (l25 = true → t93 = .pointer (some ⟨M, 5, none⟩)) ∧ Hid (l26 = true → t94 = .string s.room) ∧ Hid (Made wr x)) (by decide) (by kernel_rfl) (by kernel_rfl) ?_ ?_ ?_ ?_
    · exact ⟨false, false, false, false, false, false, false, false, false, false, false, false, false, false, false, false, false, false, false, false, false, false, false, false, false, false, false, _, _, _, _, _, _, _, _, _, _, _, _, _, _, _, _, _, _, _, _, _, _, _, _, _, _, _, rfl, rfl, Lib.hid (fun h => by cases h), Lib.hid (fun h => by cases h), Lib.hid (fun h => by cases h), Lib.hid (fun h => by cases h), Lib.hid (fun h => by cases h), Lib.hid (fun h => by cases h), Lib.hid (fun h => by cases h), Lib.hid (fun h => by cases h), Lib.hid (fun h => by cases h), Lib.hid (fun h => by cases h), Lib.hid (fun h => by cases h), Lib.hid (fun h => by cases h), Lib.hid (fun h => by cases h), Lib.hid (fun h => by cases h), Lib.hid (fun h => by cases h), Lib.hid (fun h => by cases h), Lib.hid (fun h => by cases h), Lib.hid (fun h => by cases h), Lib.hid (fun h => by cases h), Lib.hid (fun h => by cases h), Lib.hid (fun h => by cases h), Lib.hid (fun h => by cases h), Lib.hid (fun h => by cases h), Lib.hid (fun h => by cases h), Lib.hid (fun h => by cases h), Lib.hid (fun h => by cases h), Lib.hid (fun h => by cases h), Lib.hid (Made.start wr)⟩
    · intro listed a x hj; obtain ⟨l0, hj⟩ := hj
      obtain ⟨l1, hj⟩ := hj; obtain ⟨l2, hj⟩ := hj; obtain ⟨l3, hj⟩ := hj; obtain ⟨l4, hj⟩ := hj; obtain ⟨l5, hj⟩ := hj; obtain ⟨l6, hj⟩ := hj; obtain ⟨l7, hj⟩ := hj; obtain ⟨l8, hj⟩ := hj; obtain ⟨l9, hj⟩ := hj; obtain ⟨l10, hj⟩ := hj; obtain ⟨l11, hj⟩ := hj; obtain ⟨l12, hj⟩ := hj; obtain ⟨l13, hj⟩ := hj; obtain ⟨l14, hj⟩ := hj; obtain ⟨l15, hj⟩ := hj; obtain ⟨l16, hj⟩ := hj; obtain ⟨l17, hj⟩ := hj; obtain ⟨l18, hj⟩ := hj; obtain ⟨l19, hj⟩ := hj; obtain ⟨l20, hj⟩ := hj; obtain ⟨l21, hj⟩ := hj; obtain ⟨l22, hj⟩ := hj; obtain ⟨l23, hj⟩ := hj; obtain ⟨l24, hj⟩ := hj; obtain ⟨l25, hj⟩ := hj; obtain ⟨l26, hj⟩ := hj; obtain ⟨t68, hj⟩ := hj; obtain ⟨t69, hj⟩ := hj; obtain ⟨t70, hj⟩ := hj; obtain ⟨t71, hj⟩ := hj; obtain ⟨t72, hj⟩ := hj; obtain ⟨t73, hj⟩ := hj; obtain ⟨t74, hj⟩ := hj; obtain ⟨t75, hj⟩ := hj; obtain ⟨t76, hj⟩ := hj; obtain ⟨t77, hj⟩ := hj; obtain ⟨t78, hj⟩ := hj; obtain ⟨t79, hj⟩ := hj; obtain ⟨t80, hj⟩ := hj; obtain ⟨t81, hj⟩ := hj; obtain ⟨t82, hj⟩ := hj; obtain ⟨t83, hj⟩ := hj; obtain ⟨t84, hj⟩ := hj; obtain ⟨t85, hj⟩ := hj; obtain ⟨t86, hj⟩ := hj; obtain ⟨t87, hj⟩ := hj; obtain ⟨t88, hj⟩ := hj; obtain ⟨t89, hj⟩ := hj; obtain ⟨t90, hj⟩ := hj; obtain ⟨t91, hj⟩ := hj; obtain ⟨t92, hj⟩ := hj; obtain ⟨t93, hj⟩ := hj; obtain ⟨t94, hj⟩ := hj; obtain ⟨h1, -⟩ := hj; subst h1; exact ⟨rfl, fun k h1 h2 => by (have h2 : k < 30 := h2); rcases (show k = 27 ∨ k = 28 ∨ k = 29 by omega) with rfl | rfl | rfl <;> rfl⟩
    · intro listed a x i hj hlt hu haf; obtain ⟨l0, hj⟩ := hj
      obtain ⟨l1, hj⟩ := hj; obtain ⟨l2, hj⟩ := hj; obtain ⟨l3, hj⟩ := hj; obtain ⟨l4, hj⟩ := hj; obtain ⟨l5, hj⟩ := hj; obtain ⟨l6, hj⟩ := hj; obtain ⟨l7, hj⟩ := hj; obtain ⟨l8, hj⟩ := hj; obtain ⟨l9, hj⟩ := hj; obtain ⟨l10, hj⟩ := hj; obtain ⟨l11, hj⟩ := hj; obtain ⟨l12, hj⟩ := hj; obtain ⟨l13, hj⟩ := hj; obtain ⟨l14, hj⟩ := hj; obtain ⟨l15, hj⟩ := hj; obtain ⟨l16, hj⟩ := hj; obtain ⟨l17, hj⟩ := hj; obtain ⟨l18, hj⟩ := hj; obtain ⟨l19, hj⟩ := hj; obtain ⟨l20, hj⟩ := hj; obtain ⟨l21, hj⟩ := hj; obtain ⟨l22, hj⟩ := hj; obtain ⟨l23, hj⟩ := hj; obtain ⟨l24, hj⟩ := hj; obtain ⟨l25, hj⟩ := hj; obtain ⟨l26, hj⟩ := hj; obtain ⟨t68, hj⟩ := hj; obtain ⟨t69, hj⟩ := hj; obtain ⟨t70, hj⟩ := hj; obtain ⟨t71, hj⟩ := hj; obtain ⟨t72, hj⟩ := hj; obtain ⟨t73, hj⟩ := hj; obtain ⟨t74, hj⟩ := hj; obtain ⟨t75, hj⟩ := hj; obtain ⟨t76, hj⟩ := hj; obtain ⟨t77, hj⟩ := hj; obtain ⟨t78, hj⟩ := hj; obtain ⟨t79, hj⟩ := hj; obtain ⟨t80, hj⟩ := hj; obtain ⟨t81, hj⟩ := hj; obtain ⟨t82, hj⟩ := hj; obtain ⟨t83, hj⟩ := hj; obtain ⟨t84, hj⟩ := hj; obtain ⟨t85, hj⟩ := hj; obtain ⟨t86, hj⟩ := hj; obtain ⟨t87, hj⟩ := hj; obtain ⟨t88, hj⟩ := hj; obtain ⟨t89, hj⟩ := hj; obtain ⟨t90, hj⟩ := hj; obtain ⟨t91, hj⟩ := hj; obtain ⟨t92, hj⟩ := hj; obtain ⟨t93, hj⟩ := hj; obtain ⟨t94, hj⟩ := hj; obtain ⟨hl_, hj⟩ := hj; obtain ⟨ha_, hj⟩ := hj; obtain ⟨H0, hj⟩ := hj; obtain ⟨H1, hj⟩ := hj; obtain ⟨H2, hj⟩ := hj; obtain ⟨H3, hj⟩ := hj; obtain ⟨H4, hj⟩ := hj; obtain ⟨H5, hj⟩ := hj; obtain ⟨H6, hj⟩ := hj; obtain ⟨H7, hj⟩ := hj; obtain ⟨H8, hj⟩ := hj; obtain ⟨H9, hj⟩ := hj; obtain ⟨H10, hj⟩ := hj; obtain ⟨H11, hj⟩ := hj; obtain ⟨H12, hj⟩ := hj; obtain ⟨H13, hj⟩ := hj; obtain ⟨H14, hj⟩ := hj; obtain ⟨H15, hj⟩ := hj; obtain ⟨H16, hj⟩ := hj; obtain ⟨H17, hj⟩ := hj; obtain ⟨H18, hj⟩ := hj; obtain ⟨H19, hj⟩ := hj; obtain ⟨H20, hj⟩ := hj; obtain ⟨H21, hj⟩ := hj; obtain ⟨H22, hj⟩ := hj; obtain ⟨H23, hj⟩ := hj; obtain ⟨H24, hj⟩ := hj; obtain ⟨H25, hj⟩ := hj; obtain ⟨H26, hj⟩ := hj; have HS := hj; clear hj; subst hl_; subst ha_; rcases (show ∀ i : Nat, i < 27 → (i = 0 ∨ i = 1 ∨ i = 2 ∨ i = 3 ∨ i = 4 ∨ i = 5 ∨ i = 6 ∨ i = 7 ∨ i = 8 ∨ i = 9 ∨ i = 10 ∨ i = 11 ∨ i = 12 ∨ i = 13 ∨ i = 14 ∨ i = 15 ∨ i = 16 ∨ i = 17 ∨ i = 18 ∨ i = 19 ∨ i = 20 ∨ i = 21 ∨ i = 22 ∨ i = 23 ∨ i = 24 ∨ i = 25 ∨ i = 26) by decide) i hlt with rfl | rfl | rfl | rfl | rfl | rfl | rfl | rfl | rfl | rfl | rfl | rfl | rfl | rfl | rfl | rfl | rfl | rfl | rfl | rfl | rfl | rfl | rfl | rfl | rfl | rfl | rfl
      · have haf := haf _ rfl; clear haf
        have hu : l0 = false := hu
        refine wpOp_of_list_any rfl fun QQ hQ => ?_
        have hQQ := Lib.hid hQ; clear hQ; simp only [List.getElem_toArray, List.getElem_cons_zero]
        go_wp2_with fail
        exact hQQ.out _ _ ⟨true, l1, l2, l3, l4, l5, l6, l7, l8, l9, l10, l11, l12, l13, l14, l15, l16, l17, l18, l19, l20, l21, l22, l23, l24, l25, l26, _, _, _, _, _, _, _, _, _, _, _, _, _, _, _, _, _, _, _, _, _, _, _, _, _, _, _, rfl, rfl, Lib.hid (fun _ => rfl), H1, H2, H3, H4, H5, H6, H7, H8, H9, H10, H11, H12, H13, H14, H15, H16, H17, H18, H19, H20, H21, H22, H23, H24, H25, H26, HS⟩
      · have haf := haf _ rfl; have q0 : l0 = true := haf ⟨0, Go.Ground.data⟩ (by simp) rfl
        clear haf; have hu : l1 = false := hu
        have e0 := (H0.out q0)
        subst e0; clear H0; have hc : x.cell? ⟨M, 0, none⟩ = some (.string s.cls) := (HM9.out.below HS.out.below HM9.out.lt).cell 0
        refine wpOp_of_list_any rfl fun QQ hQ => ?_
        have hQQ := Lib.hid hQ; clear hQ; simp only [List.getElem_toArray, List.getElem_cons_zero, List.getElem_cons_succ]
        go_wp2_with fail
        exact hQQ.out _ _ ⟨l0, true, l2, l3, l4, l5, l6, l7, l8, l9, l10, l11, l12, l13, l14, l15, l16, l17, l18, l19, l20, l21, l22, l23, l24, l25, l26, _, _, _, _, _, _, _, _, _, _, _, _, _, _, _, _, _, _, _, _, _, _, _, _, _, _, _, rfl, rfl, Lib.hid (fun _ => rfl), Lib.hid (fun _ => rfl), H2, H3, H4, H5, H6, H7, H8, H9, H10, H11, H12, H13, H14, H15, H16, H17, H18, H19, H20, H21, H22, H23, H24, H25, H26, HS⟩
      · have haf := haf _ rfl; have q1 : l1 = true := haf ⟨1, Go.Ground.data⟩ (by simp) rfl
        clear haf; have hu : l2 = false := hu
        have e1 := (H1.out q1)
        subst e1; clear H1; refine wpOp_of_list_any rfl fun QQ hQ => ?_
        have hQQ := Lib.hid hQ; clear hQ; simp only [List.getElem_toArray, List.getElem_cons_zero, List.getElem_cons_succ]
        go_wp2_with fail
        exact hQQ.out _ _ ⟨l0, l1, true, l3, l4, l5, l6, l7, l8, l9, l10, l11, l12, l13, l14, l15, l16, l17, l18, l19, l20, l21, l22, l23, l24, l25, l26, _, _, _, _, _, _, _, _, _, _, _, _, _, _, _, _, _, _, _, _, _, _, _, _, _, _, _, rfl, rfl, H0, Lib.hid (fun _ => rfl), Lib.hid (fun _ => rfl), H3, H4, H5, H6, H7, H8, H9, H10, H11, H12, H13, H14, H15, H16, H17, H18, H19, H20, H21, H22, H23, H24, H25, H26, HS⟩
      · have haf := haf _ rfl; clear haf
        have hu : l3 = false := hu
        refine wpOp_of_list_any rfl fun QQ hQ => ?_
        have hQQ := Lib.hid hQ; clear hQ; simp only [List.getElem_toArray, List.getElem_cons_zero, List.getElem_cons_succ]
        go_wp2_with fail
        exact hQQ.out _ _ ⟨l0, l1, l2, true, l4, l5, l6, l7, l8, l9, l10, l11, l12, l13, l14, l15, l16, l17, l18, l19, l20, l21, l22, l23, l24, l25, l26, _, _, _, _, _, _, _, _, _, _, _, _, _, _, _, _, _, _, _, _, _, _, _, _, _, _, _, rfl, rfl, H0, H1, H2, Lib.hid (fun _ => rfl), H4, H5, H6, H7, H8, H9, H10, H11, H12, H13, H14, H15, H16, H17, H18, H19, H20, H21, H22, H23, H24, H25, H26, HS⟩
      · have haf := haf _ rfl; have q3 : l3 = true := haf ⟨3, Go.Ground.data⟩ (by simp) rfl
        clear haf; have hu : l4 = false := hu
        have e3 := (H3.out q3)
        subst e3; clear H3; refine wpOp_of_list_any rfl fun QQ hQ => ?_
        have hQQ := Lib.hid hQ; clear hQ; simp only [List.getElem_toArray, List.getElem_cons_zero, List.getElem_cons_succ]
        go_wp2_with fail
        refine (HCD.out _ HS.out.below).mono ?_
        rintro y x1 ⟨rfl, hb1⟩; have hk := Kept.made (B := wr.heap.size) hb1
        have HS1 := Lib.hid (HS.out.then hb1)
        clear hb1; go_wp2_with fail
        exact hQQ.out _ _ ⟨l0, l1, l2, l3, true, l5, l6, l7, l8, l9, l10, l11, l12, l13, l14, l15, l16, l17, l18, l19, l20, l21, l22, l23, l24, l25, l26, _, _, _, _, _, _, _, _, _, _, _, _, _, _, _, _, _, _, _, _, _, _, _, _, _, _, _, rfl, rfl, H0, H1, H2, Lib.hid (fun _ => rfl), Lib.hid (fun _ => rfl), H5, H6, H7, H8, H9, H10, H11, H12, H13, H14, H15, H16, H17, H18, H19, H20, H21, H22, H23, H24, H25, H26, HS1⟩
      · have haf := haf _ rfl; have q2 : l2 = true := haf ⟨2, Go.Ground.data⟩ (by simp) rfl
        have q4 : l4 = true := haf ⟨4, Go.Ground.data⟩ (by simp) rfl
        clear haf; have hu : l5 = false := hu
        have e2 := (H2.out q2)
        subst e2; clear H2; have e4 := (H4.out q4)
        subst e4; clear H4; refine wpOp_of_list_any rfl fun QQ hQ => ?_
        have hQQ := Lib.hid hQ; clear hQ; simp only [List.getElem_toArray, List.getElem_cons_zero, List.getElem_cons_succ]
        go_wp2_with fail
        exact hQQ.out _ _ ⟨l0, l1, l2, l3, l4, true, l6, l7, l8, l9, l10, l11, l12, l13, l14, l15, l16, l17, l18, l19, l20, l21, l22, l23, l24, l25, l26, _, _, _, _, _, _, _, _, _, _, _, _, _, _, _, _, _, _, _, _, _, _, _, _, _, _, _, rfl, rfl, H0, H1, Lib.hid (fun _ => rfl), H3, Lib.hid (fun _ => rfl), Lib.hid (fun _ => rfl), H6, H7, H8, H9, H10, H11, H12, H13, H14, H15, H16, H17, H18, H19, H20, H21, H22, H23, H24, H25, H26, HS⟩
      · have haf := haf _ rfl; clear haf
        have hu : l6 = false := hu
        refine wpOp_of_list_any rfl fun QQ hQ => ?_
        have hQQ := Lib.hid hQ; clear hQ; simp only [List.getElem_toArray, List.getElem_cons_zero, List.getElem_cons_succ]
        go_wp2_with fail
        exact hQQ.out _ _ ⟨l0, l1, l2, l3, l4, l5, true, l7, l8, l9, l10, l11, l12, l13, l14, l15, l16, l17, l18, l19, l20, l21, l22, l23, l24, l25, l26, _, _, _, _, _, _, _, _, _, _, _, _, _, _, _, _, _, _, _, _, _, _, _, _, _, _, _, rfl, rfl, H0, H1, H2, H3, H4, H5, Lib.hid (fun _ => rfl), H7, H8, H9, H10, H11, H12, H13, H14, H15, H16, H17, H18, H19, H20, H21, H22, H23, H24, H25, H26, HS⟩
      · have haf := haf _ rfl; clear haf
        have hu : l7 = false := hu
        have hc0 : x.cell? ⟨T, 0, none⟩ = some (.int .i64 r.first) := (HBT.out.below HS.out.below HBT.out.lt).cell 0
        have hc1 : x.cell? ⟨T, 1, none⟩ = some (.int .i64 r.last) := (HBT.out.below HS.out.below HBT.out.lt).cell 1
        have hc2 : x.cell? ⟨T, 2, none⟩ = some (.int .i64 r.every) := (HBT.out.below HS.out.below HBT.out.lt).cell 2
        have hc3 : x.cell? ⟨T, 3, none⟩ = some (.int .i64 r.wd) := (HBT.out.below HS.out.below HBT.out.lt).cell 3
        have hc4 : x.cell? ⟨T, 4, none⟩ = some (.slice p r.ex.length k1) := (HBT.out.below HS.out.below HBT.out.lt).cell 4
        have hc5 : x.cell? ⟨T, 5, none⟩ = some (.slice p' r.xt.length k2) := (HBT.out.below HS.out.below HBT.out.lt).cell 5
        refine wpOp_of_list_any rfl fun QQ hQ => ?_
        have hQQ := Lib.hid hQ; clear hQ; simp only [List.getElem_toArray, List.getElem_cons_zero, List.getElem_cons_succ]
        go_wp2_with fail
        exact hQQ.out _ _ ⟨l0, l1, l2, l3, l4, l5, l6, true, l8, l9, l10, l11, l12, l13, l14, l15, l16, l17, l18, l19, l20, l21, l22, l23, l24, l25, l26, _, _, _, _, _, _, _, _, _, _, _, _, _, _, _, _, _, _, _, _, _, _, _, _, _, _, _, rfl, rfl, H0, H1, H2, H3, H4, H5, H6, Lib.hid (fun _ => rfl), H8, H9, H10, H11, H12, H13, H14, H15, H16, H17, H18, H19, H20, H21, H22, H23, H24, H25, H26, HS⟩
      · have haf := haf _ rfl; clear haf
        have hu : l8 = false := hu
        refine wpOp_of_list_any rfl fun QQ hQ => ?_
        have hQQ := Lib.hid hQ; clear hQ; simp only [List.getElem_toArray, List.getElem_cons_zero, List.getElem_cons_succ]
        go_wp2_with fail
        exact hQQ.out _ _ ⟨l0, l1, l2, l3, l4, l5, l6, l7, true, l9, l10, l11, l12, l13, l14, l15, l16, l17, l18, l19, l20, l21, l22, l23, l24, l25, l26, _, _, _, _, _, _, _, _, _, _, _, _, _, _, _, _, _, _, _, _, _, _, _, _, _, _, _, rfl, rfl, H0, H1, H2, H3, H4, H5, H6, H7, Lib.hid (fun _ => rfl), H9, H10, H11, H12, H13, H14, H15, H16, H17, H18, H19, H20, H21, H22, H23, H24, H25, H26, HS⟩
      · have haf := haf _ rfl; have q8 : l8 = true := haf ⟨8, Go.Ground.data⟩ (by simp) rfl
        clear haf; have hu : l9 = false := hu
        have e8 := (H8.out q8)
        subst e8; clear H8; have hc : x.cell? ⟨P, 2, none⟩ = some (.int .i64 g.begin_) := (HP9.out.below HS.out.below HP9.out.lt).cell 2
        refine wpOp_of_list_any rfl fun QQ hQ => ?_
        have hQQ := Lib.hid hQ; clear hQ; simp only [List.getElem_toArray, List.getElem_cons_zero, List.getElem_cons_succ]
        go_wp2_with fail
        exact hQQ.out _ _ ⟨l0, l1, l2, l3, l4, l5, l6, l7, l8, true, l10, l11, l12, l13, l14, l15, l16, l17, l18, l19, l20, l21, l22, l23, l24, l25, l26, _, _, _, _, _, _, _, _, _, _, _, _, _, _, _, _, _, _, _, _, _, _, _, _, _, _, _, rfl, rfl, H0, H1, H2, H3, H4, H5, H6, H7, Lib.hid (fun _ => rfl), Lib.hid (fun _ => rfl), H10, H11, H12, H13, H14, H15, H16, H17, H18, H19, H20, H21, H22, H23, H24, H25, H26, HS⟩
      · have haf := haf _ rfl; clear haf
        have hu : l10 = false := hu
        refine wpOp_of_list_any rfl fun QQ hQ => ?_
        have hQQ := Lib.hid hQ; clear hQ; simp only [List.getElem_toArray, List.getElem_cons_zero, List.getElem_cons_succ]
        go_wp2_with fail
        exact hQQ.out _ _ ⟨l0, l1, l2, l3, l4, l5, l6, l7, l8, l9, true, l11, l12, l13, l14, l15, l16, l17, l18, l19, l20, l21, l22, l23, l24, l25, l26, _, _, _, _, _, _, _, _, _, _, _, _, _, _, _, _, _, _, _, _, _, _, _, _, _, _, _, rfl, rfl, H0, H1, H2, H3, H4, H5, H6, H7, H8, H9, Lib.hid (fun _ => rfl), H11, H12, H13, H14, H15, H16, H17, H18, H19, H20, H21, H22, H23, H24, H25, H26, HS⟩
      · have haf := haf _ rfl; have q10 : l10 = true := haf ⟨10, Go.Ground.data⟩ (by simp) rfl
        clear haf; have hu : l11 = false := hu
        have e10 := (H10.out q10)
        subst e10; clear H10; refine wpOp_of_list_any rfl fun QQ hQ => ?_
        have hQQ := Lib.hid hQ; clear hQ; simp only [List.getElem_toArray, List.getElem_cons_zero, List.getElem_cons_succ]
        go_wp2_with fail
        exact hQQ.out _ _ ⟨l0, l1, l2, l3, l4, l5, l6, l7, l8, l9, l10, true, l12, l13, l14, l15, l16, l17, l18, l19, l20, l21, l22, l23, l24, l25, l26, _, _, _, _, _, _, _, _, _, _, _, _, _, _, _, _, _, _, _, _, _, _, _, _, _, _, _, rfl, rfl, H0, H1, H2, H3, H4, H5, H6, H7, H8, H9, Lib.hid (fun _ => rfl), Lib.hid (fun _ => rfl), H12, H13, H14, H15, H16, H17, H18, H19, H20, H21, H22, H23, H24, H25, H26, HS⟩
      · have haf := haf _ rfl; have q11 : l11 = true := haf ⟨11, Go.Ground.data⟩ (by simp) rfl
        clear haf; have hu : l12 = false := hu
        have e11 := (H11.out q11)
        subst e11; clear H11; have hc : x.cell? ⟨M, 3, none⟩ = some (.int .i64 s.tim.start) := (HM9.out.below HS.out.below HM9.out.lt).cell 3
        refine wpOp_of_list_any rfl fun QQ hQ => ?_
        have hQQ := Lib.hid hQ; clear hQ; simp only [List.getElem_toArray, List.getElem_cons_zero, List.getElem_cons_succ]
        go_wp2_with fail
        exact hQQ.out _ _ ⟨l0, l1, l2, l3, l4, l5, l6, l7, l8, l9, l10, l11, true, l13, l14, l15, l16, l17, l18, l19, l20, l21, l22, l23, l24, l25, l26, _, _, _, _, _, _, _, _, _, _, _, _, _, _, _, _, _, _, _, _, _, _, _, _, _, _, _, rfl, rfl, H0, H1, H2, H3, H4, H5, H6, H7, H8, H9, H10, Lib.hid (fun _ => rfl), Lib.hid (fun _ => rfl), H13, H14, H15, H16, H17, H18, H19, H20, H21, H22, H23, H24, H25, H26, HS⟩
      · have haf := haf _ rfl; clear haf
        have hu : l13 = false := hu
        refine wpOp_of_list_any rfl fun QQ hQ => ?_
        have hQQ := Lib.hid hQ; clear hQ; simp only [List.getElem_toArray, List.getElem_cons_zero, List.getElem_cons_succ]
        go_wp2_with fail
        exact hQQ.out _ _ ⟨l0, l1, l2, l3, l4, l5, l6, l7, l8, l9, l10, l11, l12, true, l14, l15, l16, l17, l18, l19, l20, l21, l22, l23, l24, l25, l26, _, _, _, _, _, _, _, _, _, _, _, _, _, _, _, _, _, _, _, _, _, _, _, _, _, _, _, rfl, rfl, H0, H1, H2, H3, H4, H5, H6, H7, H8, H9, H10, H11, H12, Lib.hid (fun _ => rfl), H14, H15, H16, H17, H18, H19, H20, H21, H22, H23, H24, H25, H26, HS⟩
      · have haf := haf _ rfl; have q13 : l13 = true := haf ⟨13, Go.Ground.data⟩ (by simp) rfl
        clear haf; have hu : l14 = false := hu
        have e13 := (H13.out q13)
        subst e13; clear H13; have hc : x.cell? ⟨P, 3, none⟩ = some (.int .i64 g.mins) := (HP9.out.below HS.out.below HP9.out.lt).cell 3
        refine wpOp_of_list_any rfl fun QQ hQ => ?_
        have hQQ := Lib.hid hQ; clear hQ; simp only [List.getElem_toArray, List.getElem_cons_zero, List.getElem_cons_succ]
        go_wp2_with fail
        exact hQQ.out _ _ ⟨l0, l1, l2, l3, l4, l5, l6, l7, l8, l9, l10, l11, l12, l13, true, l15, l16, l17, l18, l19, l20, l21, l22, l23, l24, l25, l26, _, _, _, _, _, _, _, _, _, _, _, _, _, _, _, _, _, _, _, _, _, _, _, _, _, _, _, rfl, rfl, H0, H1, H2, H3, H4, H5, H6, H7, H8, H9, H10, H11, H12, Lib.hid (fun _ => rfl), Lib.hid (fun _ => rfl), H15, H16, H17, H18, H19, H20, H21, H22, H23, H24, H25, H26, HS⟩
      · have haf := haf _ rfl; have q12 : l12 = true := haf ⟨12, Go.Ground.data⟩ (by simp) rfl
        have q14 : l14 = true := haf ⟨14, Go.Ground.data⟩ (by simp) rfl
        clear haf; have hu : l15 = false := hu
        have e12 := (H12.out q12)
        subst e12; clear H12; have e14 := (H14.out q14)
        subst e14; clear H14; refine wpOp_of_list_any rfl fun QQ hQ => ?_
        have hQQ := Lib.hid hQ; clear hQ; simp only [List.getElem_toArray, List.getElem_cons_zero, List.getElem_cons_succ]
        go_wp2_with fail
        exact hQQ.out _ _ ⟨l0, l1, l2, l3, l4, l5, l6, l7, l8, l9, l10, l11, l12, l13, l14, true, l16, l17, l18, l19, l20, l21, l22, l23, l24, l25, l26, _, _, _, _, _, _, _, _, _, _, _, _, _, _, _, _, _, _, _, _, _, _, _, _, _, _, _, rfl, rfl, H0, H1, H2, H3, H4, H5, H6, H7, H8, H9, H10, H11, Lib.hid (fun _ => rfl), H13, Lib.hid (fun _ => rfl), Lib.hid (fun _ => rfl), H16, H17, H18, H19, H20, H21, H22, H23, H24, H25, H26, HS⟩
      · have haf := haf _ rfl; have q9 : l9 = true := haf ⟨9, Go.Ground.data⟩ (by simp) rfl
        have q15 : l15 = true := haf ⟨15, Go.Ground.data⟩ (by simp) rfl
        clear haf; have hu : l16 = false := hu
        have e9 := (H9.out q9)
        subst e9; clear H9; have e15 := (H15.out q15)
        subst e15; clear H15; refine wpOp_of_list_any rfl fun QQ hQ => ?_
        have hQQ := Lib.hid hQ; clear hQ; simp only [List.getElem_toArray, List.getElem_cons_zero, List.getElem_cons_succ]
        go_wp2_with fail
        exact hQQ.out _ _ ⟨l0, l1, l2, l3, l4, l5, l6, l7, l8, l9, l10, l11, l12, l13, l14, l15, true, l17, l18, l19, l20, l21, l22, l23, l24, l25, l26, _, _, _, _, _, _, _, _, _, _, _, _, _, _, _, _, _, _, _, _, _, _, _, _, _, _, _, rfl, rfl, H0, H1, H2, H3, H4, H5, H6, H7, H8, Lib.hid (fun _ => rfl), H10, H11, H12, H13, H14, Lib.hid (fun _ => rfl), Lib.hid (fun _ => rfl), H17, H18, H19, H20, H21, H22, H23, H24, H25, H26, HS⟩
      · have haf := haf _ rfl; clear haf
        have hu : l17 = false := hu
        refine wpOp_of_list_any rfl fun QQ hQ => ?_
        have hQQ := Lib.hid hQ; clear hQ; simp only [List.getElem_toArray, List.getElem_cons_zero, List.getElem_cons_succ]
        go_wp2_with fail
        exact hQQ.out _ _ ⟨l0, l1, l2, l3, l4, l5, l6, l7, l8, l9, l10, l11, l12, l13, l14, l15, l16, true, l18, l19, l20, l21, l22, l23, l24, l25, l26, _, _, _, _, _, _, _, _, _, _, _, _, _, _, _, _, _, _, _, _, _, _, _, _, _, _, _, rfl, rfl, H0, H1, H2, H3, H4, H5, H6, H7, H8, H9, H10, H11, H12, H13, H14, H15, H16, Lib.hid (fun _ => rfl), H18, H19, H20, H21, H22, H23, H24, H25, H26, HS⟩
      · have haf := haf _ rfl; have q17 : l17 = true := haf ⟨17, Go.Ground.data⟩ (by simp) rfl
        clear haf; have hu : l18 = false := hu
        have e17 := (H17.out q17)
        subst e17; clear H17; refine wpOp_of_list_any rfl fun QQ hQ => ?_
        have hQQ := Lib.hid hQ; clear hQ; simp only [List.getElem_toArray, List.getElem_cons_zero, List.getElem_cons_succ]
        go_wp2_with fail
        exact hQQ.out _ _ ⟨l0, l1, l2, l3, l4, l5, l6, l7, l8, l9, l10, l11, l12, l13, l14, l15, l16, l17, true, l19, l20, l21, l22, l23, l24, l25, l26, _, _, _, _, _, _, _, _, _, _, _, _, _, _, _, _, _, _, _, _, _, _, _, _, _, _, _, rfl, rfl, H0, H1, H2, H3, H4, H5, H6, H7, H8, H9, H10, H11, H12, H13, H14, H15, H16, Lib.hid (fun _ => rfl), Lib.hid (fun _ => rfl), H19, H20, H21, H22, H23, H24, H25, H26, HS⟩
      · have haf := haf _ rfl; have q18 : l18 = true := haf ⟨18, Go.Ground.data⟩ (by simp) rfl
        clear haf; have hu : l19 = false := hu
        have e18 := (H18.out q18)
        subst e18; clear H18; have hc : x.cell? ⟨M, 4, none⟩ = some (.int .i64 s.tim.len) := (HM9.out.below HS.out.below HM9.out.lt).cell 4
        refine wpOp_of_list_any rfl fun QQ hQ => ?_
        have hQQ := Lib.hid hQ; clear hQ; simp only [List.getElem_toArray, List.getElem_cons_zero, List.getElem_cons_succ]
        go_wp2_with fail
        exact hQQ.out _ _ ⟨l0, l1, l2, l3, l4, l5, l6, l7, l8, l9, l10, l11, l12, l13, l14, l15, l16, l17, l18, true, l20, l21, l22, l23, l24, l25, l26, _, _, _, _, _, _, _, _, _, _, _, _, _, _, _, _, _, _, _, _, _, _, _, _, _, _, _, rfl, rfl, H0, H1, H2, H3, H4, H5, H6, H7, H8, H9, H10, H11, H12, H13, H14, H15, H16, H17, Lib.hid (fun _ => rfl), Lib.hid (fun _ => rfl), H20, H21, H22, H23, H24, H25, H26, HS⟩
      · have haf := haf _ rfl; clear haf
        have hu : l20 = false := hu
        refine wpOp_of_list_any rfl fun QQ hQ => ?_
        have hQQ := Lib.hid hQ; clear hQ; simp only [List.getElem_toArray, List.getElem_cons_zero, List.getElem_cons_succ]
        go_wp2_with fail
        exact hQQ.out _ _ ⟨l0, l1, l2, l3, l4, l5, l6, l7, l8, l9, l10, l11, l12, l13, l14, l15, l16, l17, l18, l19, true, l21, l22, l23, l24, l25, l26, _, _, _, _, _, _, _, _, _, _, _, _, _, _, _, _, _, _, _, _, _, _, _, _, _, _, _, rfl, rfl, H0, H1, H2, H3, H4, H5, H6, H7, H8, H9, H10, H11, H12, H13, H14, H15, H16, H17, H18, H19, Lib.hid (fun _ => rfl), H21, H22, H23, H24, H25, H26, HS⟩
      · have haf := haf _ rfl; have q20 : l20 = true := haf ⟨20, Go.Ground.data⟩ (by simp) rfl
        clear haf; have hu : l21 = false := hu
        have e20 := (H20.out q20)
        subst e20; clear H20; have hc : x.cell? ⟨P, 3, none⟩ = some (.int .i64 g.mins) := (HP9.out.below HS.out.below HP9.out.lt).cell 3
        refine wpOp_of_list_any rfl fun QQ hQ => ?_
        have hQQ := Lib.hid hQ; clear hQ; simp only [List.getElem_toArray, List.getElem_cons_zero, List.getElem_cons_succ]
        go_wp2_with fail
        exact hQQ.out _ _ ⟨l0, l1, l2, l3, l4, l5, l6, l7, l8, l9, l10, l11, l12, l13, l14, l15, l16, l17, l18, l19, l20, true, l22, l23, l24, l25, l26, _, _, _, _, _, _, _, _, _, _, _, _, _, _, _, _, _, _, _, _, _, _, _, _, _, _, _, rfl, rfl, H0, H1, H2, H3, H4, H5, H6, H7, H8, H9, H10, H11, H12, H13, H14, H15, H16, H17, H18, H19, Lib.hid (fun _ => rfl), Lib.hid (fun _ => rfl), H22, H23, H24, H25, H26, HS⟩
      · have haf := haf _ rfl; have q19 : l19 = true := haf ⟨19, Go.Ground.data⟩ (by simp) rfl
        have q21 : l21 = true := haf ⟨21, Go.Ground.data⟩ (by simp) rfl
        clear haf; have hu : l22 = false := hu
        have e19 := (H19.out q19)
        subst e19; clear H19; have e21 := (H21.out q21)
        subst e21; clear H21; refine wpOp_of_list_any rfl fun QQ hQ => ?_
        have hQQ := Lib.hid hQ; clear hQ; simp only [List.getElem_toArray, List.getElem_cons_zero, List.getElem_cons_succ]
        go_wp2_with fail
        exact hQQ.out _ _ ⟨l0, l1, l2, l3, l4, l5, l6, l7, l8, l9, l10, l11, l12, l13, l14, l15, l16, l17, l18, l19, l20, l21, true, l23, l24, l25, l26, _, _, _, _, _, _, _, _, _, _, _, _, _, _, _, _, _, _, _, _, _, _, _, _, _, _, _, rfl, rfl, H0, H1, H2, H3, H4, H5, H6, H7, H8, H9, H10, H11, H12, H13, H14, H15, H16, H17, H18, Lib.hid (fun _ => rfl), H20, Lib.hid (fun _ => rfl), Lib.hid (fun _ => rfl), H23, H24, H25, H26, HS⟩
      · have haf := haf _ rfl; clear haf
        have hu : l23 = false := hu
        refine wpOp_of_list_any rfl fun QQ hQ => ?_
        have hQQ := Lib.hid hQ; clear hQ; simp only [List.getElem_toArray, List.getElem_cons_zero, List.getElem_cons_succ]
        go_wp2_with fail
        exact hQQ.out _ _ ⟨l0, l1, l2, l3, l4, l5, l6, l7, l8, l9, l10, l11, l12, l13, l14, l15, l16, l17, l18, l19, l20, l21, l22, true, l24, l25, l26, _, _, _, _, _, _, _, _, _, _, _, _, _, _, _, _, _, _, _, _, _, _, _, _, _, _, _, rfl, rfl, H0, H1, H2, H3, H4, H5, H6, H7, H8, H9, H10, H11, H12, H13, H14, H15, H16, H17, H18, H19, H20, H21, H22, Lib.hid (fun _ => rfl), H24, H25, H26, HS⟩
      · have haf := haf _ rfl; have q23 : l23 = true := haf ⟨23, Go.Ground.data⟩ (by simp) rfl
        clear haf; have hu : l24 = false := hu
        have e23 := (H23.out q23)
        subst e23; clear H23; have hc : x.cell? ⟨M, 0, none⟩ = some (.string s.cls) := (HM9.out.below HS.out.below HM9.out.lt).cell 0
        refine wpOp_of_list_any rfl fun QQ hQ => ?_
        have hQQ := Lib.hid hQ; clear hQ; simp only [List.getElem_toArray, List.getElem_cons_zero, List.getElem_cons_succ]
        go_wp2_with fail
        exact hQQ.out _ _ ⟨l0, l1, l2, l3, l4, l5, l6, l7, l8, l9, l10, l11, l12, l13, l14, l15, l16, l17, l18, l19, l20, l21, l22, l23, true, l25, l26, _, _, _, _, _, _, _, _, _, _, _, _, _, _, _, _, _, _, _, _, _, _, _, _, _, _, _, rfl, rfl, H0, H1, H2, H3, H4, H5, H6, H7, H8, H9, H10, H11, H12, H13, H14, H15, H16, H17, H18, H19, H20, H21, H22, Lib.hid (fun _ => rfl), Lib.hid (fun _ => rfl), H25, H26, HS⟩
      · have haf := haf _ rfl; clear haf
        have hu : l25 = false := hu
        refine wpOp_of_list_any rfl fun QQ hQ => ?_
        have hQQ := Lib.hid hQ; clear hQ; simp only [List.getElem_toArray, List.getElem_cons_zero, List.getElem_cons_succ]
        go_wp2_with fail
        exact hQQ.out _ _ ⟨l0, l1, l2, l3, l4, l5, l6, l7, l8, l9, l10, l11, l12, l13, l14, l15, l16, l17, l18, l19, l20, l21, l22, l23, l24, true, l26, _, _, _, _, _, _, _, _, _, _, _, _, _, _, _, _, _, _, _, _, _, _, _, _, _, _, _, rfl, rfl, H0, H1, H2, H3, H4, H5, H6, H7, H8, H9, H10, H11, H12, H13, H14, H15, H16, H17, H18, H19, H20, H21, H22, H23, H24, Lib.hid (fun _ => rfl), H26, HS⟩
      · have haf := haf _ rfl; have q25 : l25 = true := haf ⟨25, Go.Ground.data⟩ (by simp) rfl
        clear haf; have hu : l26 = false := hu
        have e25 := (H25.out q25)
        subst e25; clear H25; have hc : x.cell? ⟨M, 5, none⟩ = some (.string s.room) := (HM9.out.below HS.out.below HM9.out.lt).cell 5
        refine wpOp_of_list_any rfl fun QQ hQ => ?_
        have hQQ := Lib.hid hQ; clear hQ; simp only [List.getElem_toArray, List.getElem_cons_zero, List.getElem_cons_succ]
        go_wp2_with fail
        exact hQQ.out _ _ ⟨l0, l1, l2, l3, l4, l5, l6, l7, l8, l9, l10, l11, l12, l13, l14, l15, l16, l17, l18, l19, l20, l21, l22, l23, l24, l25, true, _, _, _, _, _, _, _, _, _, _, _, _, _, _, _, _, _, _, _, _, _, _, _, _, _, _, _, rfl, rfl, H0, H1, H2, H3, H4, H5, H6, H7, H8, H9, H10, H11, H12, H13, H14, H15, H16, H17, H18, H19, H20, H21, H22, H23, H24, Lib.hid (fun _ => rfl), Lib.hid (fun _ => rfl), HS⟩
    · intro listed a x hj hall; obtain ⟨l0, hj⟩ := hj
      obtain ⟨l1, hj⟩ := hj; obtain ⟨l2, hj⟩ := hj; obtain ⟨l3, hj⟩ := hj; obtain ⟨l4, hj⟩ := hj; obtain ⟨l5, hj⟩ := hj; obtain ⟨l6, hj⟩ := hj; obtain ⟨l7, hj⟩ := hj; obtain ⟨l8, hj⟩ := hj; obtain ⟨l9, hj⟩ := hj; obtain ⟨l10, hj⟩ := hj; obtain ⟨l11, hj⟩ := hj; obtain ⟨l12, hj⟩ := hj; obtain ⟨l13, hj⟩ := hj; obtain ⟨l14, hj⟩ := hj; obtain ⟨l15, hj⟩ := hj; obtain ⟨l16, hj⟩ := hj; obtain ⟨l17, hj⟩ := hj; obtain ⟨l18, hj⟩ := hj; obtain ⟨l19, hj⟩ := hj; obtain ⟨l20, hj⟩ := hj; obtain ⟨l21, hj⟩ := hj; obtain ⟨l22, hj⟩ := hj; obtain ⟨l23, hj⟩ := hj; obtain ⟨l24, hj⟩ := hj; obtain ⟨l25, hj⟩ := hj; obtain ⟨l26, hj⟩ := hj; obtain ⟨t68, hj⟩ := hj; obtain ⟨t69, hj⟩ := hj; obtain ⟨t70, hj⟩ := hj; obtain ⟨t71, hj⟩ := hj; obtain ⟨t72, hj⟩ := hj; obtain ⟨t73, hj⟩ := hj; obtain ⟨t74, hj⟩ := hj; obtain ⟨t75, hj⟩ := hj; obtain ⟨t76, hj⟩ := hj; obtain ⟨t77, hj⟩ := hj; obtain ⟨t78, hj⟩ := hj; obtain ⟨t79, hj⟩ := hj; obtain ⟨t80, hj⟩ := hj; obtain ⟨t81, hj⟩ := hj; obtain ⟨t82, hj⟩ := hj; obtain ⟨t83, hj⟩ := hj; obtain ⟨t84, hj⟩ := hj; obtain ⟨t85, hj⟩ := hj; obtain ⟨t86, hj⟩ := hj; obtain ⟨t87, hj⟩ := hj; obtain ⟨t88, hj⟩ := hj; obtain ⟨t89, hj⟩ := hj; obtain ⟨t90, hj⟩ := hj; obtain ⟨t91, hj⟩ := hj; obtain ⟨t92, hj⟩ := hj; obtain ⟨t93, hj⟩ := hj; obtain ⟨t94, hj⟩ := hj; obtain ⟨hl_, hj⟩ := hj; obtain ⟨ha_, hj⟩ := hj; obtain ⟨H0, hj⟩ := hj; obtain ⟨H1, hj⟩ := hj; obtain ⟨H2, hj⟩ := hj; obtain ⟨H3, hj⟩ := hj; obtain ⟨H4, hj⟩ := hj; obtain ⟨H5, hj⟩ := hj; obtain ⟨H6, hj⟩ := hj; obtain ⟨H7, hj⟩ := hj; obtain ⟨H8, hj⟩ := hj; obtain ⟨H9, hj⟩ := hj; obtain ⟨H10, hj⟩ := hj; obtain ⟨H11, hj⟩ := hj; obtain ⟨H12, hj⟩ := hj; obtain ⟨H13, hj⟩ := hj; obtain ⟨H14, hj⟩ := hj; obtain ⟨H15, hj⟩ := hj; obtain ⟨H16, hj⟩ := hj; obtain ⟨H17, hj⟩ := hj; obtain ⟨H18, hj⟩ := hj; obtain ⟨H19, hj⟩ := hj; obtain ⟨H20, hj⟩ := hj; obtain ⟨H21, hj⟩ := hj; obtain ⟨H22, hj⟩ := hj; obtain ⟨H23, hj⟩ := hj; obtain ⟨H24, hj⟩ := hj; obtain ⟨H25, hj⟩ := hj; obtain ⟨H26, hj⟩ := hj; have HS := hj; clear hj; subst hl_; subst ha_; have q5 : l5 = true := hall 5 (by omega)
      have q6 : l6 = true := hall 6 (by omega)
      have q7 : l7 = true := hall 7 (by omega)
      have q16 : l16 = true := hall 16 (by omega)
      have q22 : l22 = true := hall 22 (by omega)
      have q24 : l24 = true := hall 24 (by omega)
      have q26 : l26 = true := hall 26 (by omega)
      clear hall; have e5 := (H5.out q5)
      subst e5; have e6 := (H6.out q6)
      subst e6; have e7 := (H7.out q7)
      subst e7; have e16 := (H16.out q16)
      subst e16; have e22 := (H22.out q22)
      subst e22; have e24 := (H24.out q24)
      subst e24; have e26 := (H26.out q26)
      subst e26; have HRx := Lib.hid (HFR.out _ HS.out.below)
      have f0 := HRx.out.frozen 0; have f1 := HRx.out.frozen 1; have f2 := HRx.out.frozen 2; have f3 := HRx.out.frozen 3; have f4 := HRx.out.frozen 4; have f5 := HRx.out.frozen 5; have f6 := HRx.out.frozen 6; have f7 := HRx.out.frozen 7; have f8 := HRx.out.frozen 8; have f9 := HRx.out.frozen 9; have f10 := HRx.out.frozen 10; have f11 := HRx.out.frozen 11; have f12 := HRx.out.frozen 12; have y0 := HRx.out.cell 0; have y1 := HRx.out.cell 1; have y2 := HRx.out.cell 2; have y3 := HRx.out.cell 3; have y4 := HRx.out.cell 4; have y5 := HRx.out.cell 5; have y6 := HRx.out.cell 6; have y7 := HRx.out.cell 7; have y8 := HRx.out.cell 8; have y9 := HRx.out.cell 9; have y10 := HRx.out.cell 10; have y11 := HRx.out.cell 11; have y12 := HRx.out.cell 12; simp only [List.getElem?_toArray, List.getElem?_cons_zero, List.getElem?_cons_succ] at y0 y1 y2 y3 y4 y5 y6 y7 y8 y9 y10 y11 y12
      refine tail_any (fun a x => ∃ (t9 t68 t69 t70 t71 t72 t73 t74 t75 t76 t77 t78 t79 t80 t81 t82 t83 t84 t85 t86 t87 t88 t89 t90 t91 t92 t93 t94 t95 : Value), a = ⟨(.agg #[.int .i64 g.days, .int .i64 g.slots, .int .i64 g.begin_, .int .i64 g.mins] :: .agg #[.int .i64 t.first, .int .i64 t.weeks, .slice ao t.hols.length c] :: .agg #[.string s.cls, .int .i64 s.tim.weeks, .int .i64 s.tim.day, .int .i64 s.tim.start, .int .i64 s.tim.len, .string s.room] :: .int .i64 q :: .pointer (some ⟨P, 0, none⟩) :: .pointer (some ⟨Q, 0, none⟩) :: .pointer (some ⟨M, 0, none⟩) :: undef :: .pointer (some ⟨R, 0, none⟩) :: t9 :: .pointer (some ⟨T, 0, none⟩) :: .int .i64 0 :: .int .i64 ((k : Int) + 1) :: u13 :: u14 :: u15 :: u16 :: u17 :: u18 :: u19 :: u20 :: u21 :: u22 :: u23 :: u24 :: u25 :: u26 :: u27 :: u28 :: u29 :: u30 :: u31 :: u32 :: u33 :: u34 :: u35 :: u36 :: .bool false :: undef :: .agg #[.int .i64 g.days, .int .i64 g.slots, .int .i64 g.begin_, .int .i64 g.mins] :: .pointer (some ⟨Q, 1, none⟩) :: .int .i64 t.weeks :: .pointer (some ⟨M, 1, none⟩) :: .agg #[.int .i64 s.tim.weeks, .int .i64 s.tim.day, .int .i64 s.tim.start, .int .i64 s.tim.len] :: .int .i64 fv :: .bool false :: undef :: .tuple #[.agg #[.int .i64 r.first, .int .i64 r.last, .int .i64 r.every, .int .i64 r.wd, .slice p r.ex.length k1, .slice p' r.xt.length k2], .int .i64 0] :: .agg #[.int .i64 t.first, .int .i64 t.weeks, .slice ao t.hols.length c] :: .pointer (some ⟨M, 1, none⟩) :: .agg #[.int .i64 s.tim.weeks, .int .i64 s.tim.day, .int .i64 s.tim.start, .int .i64 s.tim.len] :: .slice dao ds.length dc :: .tuple #[.agg #[.int .i64 r.first, .int .i64 r.last, .int .i64 r.every, .int .i64 r.wd, .slice p r.ex.length k1, .slice p' r.xt.length k2], .int .i64 0] :: .agg #[.int .i64 r.first, .int .i64 r.last, .int .i64 r.every, .int .i64 r.wd, .slice p r.ex.length k1, .slice p' r.xt.length k2] :: .int .i64 0 :: .int .i64 0 :: .bool false :: undef :: .pointer (some ⟨M, 1, none⟩) :: .pointer (some ⟨M, 1, none⟩) :: .int .i64 s.tim.weeks :: .int .i64 ((k : Int) + 1) :: .int .i64 k :: .int .i64 (s.tim.weeks / 2 ^ k) :: .int .i64 (bits .and .i64 (s.tim.weeks / 2 ^ k) 1) :: .bool false :: u66 :: u67 :: t68 :: t69 :: t70 :: t71 :: t72 :: t73 :: t74 :: t75 :: t76 :: t77 :: t78 :: t79 :: t80 :: t81 :: t82 :: t83 :: t84 :: t85 :: t86 :: t87 :: t88 :: t89 :: t90 :: t91 :: t92 :: t93 :: t94 :: t95 :: []).toArray, []⟩ ∧ t9 = .bool true ∧ Blk R #[.string (s.cls ++ ⟨#[64]⟩ ++ U), .int .i64 q, .bool false, .int .i64 r.first, .int .i64 r.last, .int .i64 r.every, .int .i64 r.wd, .slice p r.ex.length k1, .slice p' r.xt.length k2, .int .i64 (g.begin_ + s.tim.start * g.mins), .int .i64 (s.tim.len * g.mins), .string s.cls, .string s.room] 104 x ∧ Below w.heap.size w x ∧ RowI w5.heap.size x (.slice p r.ex.length k1) r.ex ∧ RowI w5.heap.size x (.slice p' r.xt.length k2) r.xt) ?_ fun QQ hQ => ?_
      · intro a x hpost; obtain ⟨t9, hpost⟩ := hpost
        obtain ⟨t68, hpost⟩ := hpost; obtain ⟨t69, hpost⟩ := hpost; obtain ⟨t70, hpost⟩ := hpost; obtain ⟨t71, hpost⟩ := hpost; obtain ⟨t72, hpost⟩ := hpost; obtain ⟨t73, hpost⟩ := hpost; obtain ⟨t74, hpost⟩ := hpost; obtain ⟨t75, hpost⟩ := hpost; obtain ⟨t76, hpost⟩ := hpost; obtain ⟨t77, hpost⟩ := hpost; obtain ⟨t78, hpost⟩ := hpost; obtain ⟨t79, hpost⟩ := hpost; obtain ⟨t80, hpost⟩ := hpost; obtain ⟨t81, hpost⟩ := hpost; obtain ⟨t82, hpost⟩ := hpost; obtain ⟨t83, hpost⟩ := hpost; obtain ⟨t84, hpost⟩ := hpost; obtain ⟨t85, hpost⟩ := hpost; obtain ⟨t86, hpost⟩ := hpost; obtain ⟨t87, hpost⟩ := hpost; obtain ⟨t88, hpost⟩ := hpost; obtain ⟨t89, hpost⟩ := hpost; obtain ⟨t90, hpost⟩ := hpost; obtain ⟨t91, hpost⟩ := hpost; obtain ⟨t92, hpost⟩ := hpost; obtain ⟨t93, hpost⟩ := hpost; obtain ⟨t94, hpost⟩ := hpost; obtain ⟨t95, hpost⟩ := hpost; obtain ⟨ha_, hpost⟩ := hpost; subst ha_; obtain ⟨rfl, hBk, hE, hx, hy⟩ := hpost; have r0 := hBk.cell 0; have r1 := hBk.cell 1; have r2 := hBk.cell 2; have r3 := hBk.cell 3; have r4 := hBk.cell 4; have r5 := hBk.cell 5; have r6 := hBk.cell 6; have r7 := hBk.cell 7; have r8 := hBk.cell 8; have r9 := hBk.cell 9; have r10 := hBk.cell 10; have r11 := hBk.cell 11; have r12 := hBk.cell 12; simp only [List.getElem?_toArray, List.getElem?_cons_zero, List.getElem?_cons_succ] at r0 r1 r2 r3 r4 r5 r6 r7 r8 r9 r10 r11 r12
        have HE := Lib.hid hE; have HX9 := Lib.hid (ownsRow_mono hx HW5.out)
        have HY9 := Lib.hid (ownsRow_mono hy HW5.out)
        clear hBk hE hx hy; go_wp2_with fail
        refine bodyPost_ret (v := .tuple #[.agg #[.string (s.cls ++ ⟨#[64]⟩ ++ U), .int .i64 q, .bool false, .int .i64 r.first, .int .i64 r.last, .int .i64 r.every, .int .i64 r.wd, .slice p r.ex.length k1, .slice p' r.xt.length k2, .int .i64 (g.begin_ + s.tim.start * g.mins), .int .i64 (s.tim.len * g.mins), .string s.cls, .string s.room], .bool true]) (by simp [results, Tryz.results43, go_sem, r0, r1, r2, r3, r4, r5, r6, r7, r8, r9, r10, r11, r12]) rfl ?_
        refine evB_gen (e := ⟨uidOf s, q, false, r, g.begin_ + s.tim.start * g.mins, s.tim.len * g.mins, s.cls, s.room⟩) HEY.out (by rw [if_pos rfl, HRR.out, HDS.out]; rfl) ⟨p, p', k1, k2, ?_, HX9.out, HY9.out, HE.out⟩
        have hu : uidOf s = s.cls ++ ⟨#[64]⟩ ++ U := by unfold uidOf; rw [← HK0.out, HU.out]
        unfold evVal evCells
        rw [hu]
      have hQQ := Lib.hid hQ; clear hQ; simp only [List.drop_succ_cons, List.drop_zero]
      go_wp2_with fail
      obtain ⟨Y, hY, hBk, hE⟩ := fill13 HRx.out rfl (HBW.out.trans ((HB7.out.trans (HS.out.below.mono HB7.out.size)).mono HBW.out.size)) HRW.out (.string (s.cls ++ ⟨#[64]⟩ ++ U)) (.int .i64 q) (.bool false) (.int .i64 r.first) (.int .i64 r.last) (.int .i64 r.every) (.int .i64 r.wd) (.slice p r.ex.length k1) (.slice p' r.xt.length k2) (.int .i64 (g.begin_ + s.tim.start * g.mins)) (.int .i64 (s.tim.len * g.mins)) (.string s.cls) (.string s.room)
      have hx := row_setAll (by decide) [.string (s.cls ++ ⟨#[64]⟩ ++ U), .int .i64 q, .bool false, .int .i64 r.first, .int .i64 r.last, .int .i64 r.every, .int .i64 r.wd, .slice p r.ex.length k1, .slice p' r.xt.length k2, .int .i64 (g.begin_ + s.tim.start * g.mins), .int .i64 (s.tim.len * g.mins), .string s.cls, .string s.room] 0 x _ (ownsRow_below HX7.out HS.out.below) HRx.out
      have hy := row_setAll (by decide) [.string (s.cls ++ ⟨#[64]⟩ ++ U), .int .i64 q, .bool false, .int .i64 r.first, .int .i64 r.last, .int .i64 r.every, .int .i64 r.wd, .slice p r.ex.length k1, .slice p' r.xt.length k2, .int .i64 (g.begin_ + s.tim.start * g.mins), .int .i64 (s.tim.len * g.mins), .string s.cls, .string s.room] 0 x _ (ownsRow_below HY7.out HS.out.below) HRx.out
      rw [← hY] at hx hy
      simp only [setAll, Nat.zero_add] at hY
      rw [← hY]; clear hY; exact hQQ.out _ _ ⟨_, _, _, _, _, _, _, _, _, _, _, _, _, _, _, _, _, _, _, _, _, _, _, _, _, _, _, _, _, rfl, rfl, hBk, hE, hx, hy⟩
end Go.Proofs.YtcomifbfldoeiaaGreatDoor
