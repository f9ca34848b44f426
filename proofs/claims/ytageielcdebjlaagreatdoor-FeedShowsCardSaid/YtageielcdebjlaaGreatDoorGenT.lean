/- The small generators of grids, weeks and times: their contracts. -/
import Derived.Test.YtageielcdebjlaaGreatDoorPk20
import Derived.Test.YtageielcdebjlaaGreatDoorPk11
namespace Go.Proofs.YtageielcdebjlaaGreatDoor
open Go.RowKit

theorem fillS {b g : Nat} {ty : TypeId} {cs : Array Value} {w0 w : World} (h : Blk g cs ty w) (hs : Sofar b w0 w) (hg : w0.heap.size ≤ g) (hb : b < g) (vs : List Value) (hl : cs.size = vs.length) : ∃ Y, Y = setAll w g 0 vs ∧ Blk g vs.toArray ty Y ∧ Sofar b w0 Y := by
  refine ⟨_, rfl, ?_, ⟨but_setAll hg vs 0 w hs.but, dice_setAll hb vs 0 w hs.dice⟩⟩
  have := Blk.puts (g := g) (ty := ty) vs [] cs.toList [] w (by simpa using h) (by simpa using hl)
  simpa using this
theorem Tt.grid_ok {a b c d : Int} (a0 : 0 ≤ a) (a1 : a < 5) (b0 : 0 ≤ b) (b1 : b < 7) (c0 : 0 ≤ c) (c1 : c < 8) (d0 : 0 ≤ d) (d1 : d < 3) : Tt.gridV ⟨1 + a, 2 + b, 480 + 15 * c, 30 + 15 * d⟩ = 0 := by
  have h1 : (2 + b) * (30 + 15 * d) ≤ 8 * 60 := Int.le_trans (Int.mul_le_mul_of_nonneg_right (show 2 + b ≤ 8 by omega) (by omega)) (Int.mul_le_mul_of_nonneg_left (show 30 + 15 * d ≤ 60 by omega) (by omega))
  unfold Tt.gridV
  rw [if_neg]
  show ¬ (1 + a < 1 ∨ 7 < 1 + a ∨ 2 + b < 1 ∨ 24 < 2 + b ∨ 480 + 15 * c < 0 ∨ 1440 ≤ 480 + 15 * c ∨ 30 + 15 * d < 5 ∨ 120 < 30 + 15 * d ∨ 1440 < 480 + 15 * c + (2 + b) * (30 + 15 * d))
  omega
set_option maxHeartbeats 8000000 in
set_option maxRecDepth 100000 in
theorem grid60v (b : Nat) (w : World) (hd : Dice b w) : Calls Tryz.prog 60 #[.pointer (some ⟨b, 0, none⟩)] w fun e w' => ∃ g : Tt.Grd, e = .returned (grdVal g) ∧ Tt.gridV g = 0 ∧ 1 ≤ g.days ∧ g.days ≤ 5 ∧ 2 ≤ g.slots ∧ g.slots ≤ 8 ∧ Sofar b w w' := by
  have hblt := hd.lt; obtain ⟨R, hR⟩ : ∃ g, g = w.heap.size := ⟨_, rfl⟩
  obtain ⟨w0, hw0⟩ : ∃ X, X = (w.alloc (.cells #[.int .i64 0, .int .i64 0, .int .i64 0, .int .i64 0] 90)) := ⟨_, rfl⟩
  have HS_w0 := Lib.hid (show Sofar b w w0 from by rw [hw0]; exact ((Sofar.refl hd).alloc _))
  have HR_w0 := Lib.hid (show Blk R #[.int .i64 0, .int .i64 0, .int .i64 0, .int .i64 0] 90 w0 from by rw [hw0, hR]; exact Blk.new' _ _ _ (by simp))
  have lR : w.heap.size ≤ R := by omega
  have bR : b < R := by omega
  go_enter Tryz.func60, Tryz.ntmps60
  go_upto_region 1 with (fail)
  rw [← hw0, ← hR]; clear hw0 hR; go_wp2_with fail
  refine (next_any b 5 _ HS_w0.out.dice (by omega) (by omega)).mono ?_
  rintro e w1 ⟨a1, rfl, l1, u1, -, hd, ho⟩; have u1 := u1 (by omega)
  have HS_w1 := Lib.hid (HS_w0.out.only hd ho)
  have HR_w1 := Lib.hid (HR_w0.out.only ho (by omega))
  clear hd ho HS_w0 HR_w0; go_wp2_with fail
  refine (next_any b 7 _ HS_w1.out.dice (by omega) (by omega)).mono ?_
  rintro e w2 ⟨a2, rfl, l2, u2, -, hd, ho⟩; have u2 := u2 (by omega)
  have HS_w2 := Lib.hid (HS_w1.out.only hd ho)
  have HR_w2 := Lib.hid (HR_w1.out.only ho (by omega))
  clear hd ho HS_w1 HR_w1; go_wp2_with fail
  refine (next_any b 8 _ HS_w2.out.dice (by omega) (by omega)).mono ?_
  rintro e w3 ⟨a3, rfl, l3, u3, -, hd, ho⟩; have u3 := u3 (by omega)
  have HS_w3 := Lib.hid (HS_w2.out.only hd ho)
  have HR_w3 := Lib.hid (HR_w2.out.only ho (by omega))
  clear hd ho HS_w2 HR_w2; go_wp2_with fail
  refine (next_any b 3 _ HS_w3.out.dice (by omega) (by omega)).mono ?_
  rintro e w4 ⟨a4, rfl, l4, u4, -, hd, ho⟩; have u4 := u4 (by omega)
  have HS_w4 := Lib.hid (HS_w3.out.only hd ho)
  have HR_w4 := Lib.hid (HR_w3.out.only ho (by omega))
  clear hd ho HS_w3 HR_w3; have cR0 : w4.cell? ⟨R, 0, none⟩ = some (.int .i64 0) := HR_w4.out.cell 0
  have cR1 : w4.cell? ⟨R, 1, none⟩ = some (.int .i64 0) := HR_w4.out.cell 1
  have cR2 : w4.cell? ⟨R, 2, none⟩ = some (.int .i64 0) := HR_w4.out.cell 2
  have cR3 : w4.cell? ⟨R, 3, none⟩ = some (.int .i64 0) := HR_w4.out.cell 3
  have fR0 := HR_w4.out.frozen 0; have fR1 := HR_w4.out.frozen 1; have fR2 := HR_w4.out.frozen 2; have fR3 := HR_w4.out.frozen 3; go_wp2_with fail
  obtain ⟨Y, hY, hBk, hE⟩ := fillS HR_w4.out HS_w4.out lR (by omega) [.int .i64 (1 + a1), .int .i64 (2 + a2), .int .i64 (480 + 15 * a3), .int .i64 (30 + 15 * a4)] rfl
  simp only [setAll, Nat.zero_add] at hY
  rw [← hY]; clear cR0 cR1 cR2 cR3 fR0 fR1 fR2 fR3; clear hY; have r0 := hBk.cell 0; have r1 := hBk.cell 1; have r2 := hBk.cell 2; have r3 := hBk.cell 3; simp only [List.getElem?_toArray, List.getElem?_cons_zero, List.getElem?_cons_succ] at r0 r1 r2 r3
  refine bodyPost_ret (v := .agg #[.int .i64 (1 + a1), .int .i64 (2 + a2), .int .i64 (480 + 15 * a3), .int .i64 (30 + 15 * a4)]) (by simp [results, Tryz.results60, go_sem, r0, r1, r2, r3]) rfl ?_
  exact ⟨⟨1 + a1, 2 + a2, 480 + 15 * a3, 30 + 15 * a4⟩, rfl, Tt.grid_ok l1 u1 l2 u2 l3 u3 l4 u4, by show 1 ≤ 1 + a1; omega, by show 1 + a1 ≤ 5; omega, by show 2 ≤ 2 + a2; omega, by show 2 + a2 ≤ 8; omega, hE⟩
set_option maxHeartbeats 8000000 in
set_option maxRecDepth 100000 in
theorem grid60 (b : Nat) (w : World) (hd : Dice b w) : Calls Tryz.prog 60 #[.pointer (some ⟨b, 0, none⟩)] w fun e w' => ∃ g : Tt.Grd, e = .returned (grdVal g) ∧ 1 ≤ g.days ∧ g.days ≤ 5 ∧ 2 ≤ g.slots ∧ g.slots ≤ 8 ∧ Sofar b w w' := (grid60v b w hd).mono fun _ _ ⟨g, h1, _, h2⟩ => ⟨g, h1, h2⟩
set_option maxHeartbeats 8000000 in
set_option maxRecDepth 100000 in
theorem set143_1 (b : Nat) (w : World) (hd : Dice b w) : Calls Tryz.prog 143 #[.pointer (some ⟨b, 0, none⟩), .int .i64 1] w fun e w' => ∃ x : Int, e = .returned (.int .i64 x) ∧ 1 ≤ x ∧ x < 2 ∧ Sofar b w w' := by
  have HS_w := Lib.hid (Sofar.refl hd)
  go_enter Tryz.func143, Tryz.ntmps143
  go_wp2_with fail
  refine (next_any b 4 _ HS_w.out.dice (by omega) (by omega)).mono ?_
  rintro e w1 ⟨a1, rfl, l1, u1, -, hd, ho⟩; have u1 := u1 (by omega)
  have HS_w1 := Lib.hid (HS_w.out.only hd ho)
  clear hd ho HS_w ; rcases (show a1 = 0 ∨ a1 = 1 ∨ 2 ≤ a1 by omega) with rfl | rfl | h2
  · go_wp2_with fail
    go_ret; exact ⟨_, rfl, by decide, by decide, HS_w1.out⟩
  · go_wp2_with fail
    go_ret; exact ⟨_, rfl, by decide, by decide, HS_w1.out⟩
  · have g0 : (a1 == 0) = false := beq_eq_false_iff_ne.2 (by omega)
    have g1 : (a1 == 1) = false := beq_eq_false_iff_ne.2 (by omega)
    go_wp2_with fail
    refine (next_any b 1 _ HS_w1.out.dice (by omega) (by omega)).mono ?_
    rintro e w2 ⟨a2, rfl, l2, u2, -, hd, ho⟩; have u2 := u2 (by omega)
    have HS_w2 := Lib.hid (HS_w1.out.only hd ho)
    clear hd ho HS_w1 ; go_wp2_with fail
    go_ret; exact ⟨_, rfl, by omega, by omega, HS_w2.out⟩
set_option maxHeartbeats 8000000 in
set_option maxRecDepth 100000 in
theorem set143_2 (b : Nat) (w : World) (hd : Dice b w) : Calls Tryz.prog 143 #[.pointer (some ⟨b, 0, none⟩), .int .i64 2] w fun e w' => ∃ x : Int, e = .returned (.int .i64 x) ∧ 1 ≤ x ∧ x < 4 ∧ Sofar b w w' := by
  have HS_w := Lib.hid (Sofar.refl hd)
  go_enter Tryz.func143, Tryz.ntmps143
  go_wp2_with fail
  refine (next_any b 4 _ HS_w.out.dice (by omega) (by omega)).mono ?_
  rintro e w1 ⟨a1, rfl, l1, u1, -, hd, ho⟩; have u1 := u1 (by omega)
  have HS_w1 := Lib.hid (HS_w.out.only hd ho)
  clear hd ho HS_w ; rcases (show a1 = 0 ∨ a1 = 1 ∨ 2 ≤ a1 by omega) with rfl | rfl | h2
  · go_wp2_with fail
    go_ret; exact ⟨_, rfl, by decide, by decide, HS_w1.out⟩
  · go_wp2_with fail
    go_ret; exact ⟨_, rfl, by decide, by decide, HS_w1.out⟩
  · have g0 : (a1 == 0) = false := beq_eq_false_iff_ne.2 (by omega)
    have g1 : (a1 == 1) = false := beq_eq_false_iff_ne.2 (by omega)
    go_wp2_with fail
    refine (next_any b 3 _ HS_w1.out.dice (by omega) (by omega)).mono ?_
    rintro e w2 ⟨a2, rfl, l2, u2, -, hd, ho⟩; have u2 := u2 (by omega)
    have HS_w2 := Lib.hid (HS_w1.out.only hd ho)
    clear hd ho HS_w1 ; go_wp2_with fail
    go_ret; exact ⟨_, rfl, by omega, by omega, HS_w2.out⟩
set_option maxHeartbeats 8000000 in
set_option maxRecDepth 100000 in
theorem set143_3 (b : Nat) (w : World) (hd : Dice b w) : Calls Tryz.prog 143 #[.pointer (some ⟨b, 0, none⟩), .int .i64 3] w fun e w' => ∃ x : Int, e = .returned (.int .i64 x) ∧ 1 ≤ x ∧ x < 8 ∧ Sofar b w w' := by
  have HS_w := Lib.hid (Sofar.refl hd)
  go_enter Tryz.func143, Tryz.ntmps143
  go_wp2_with fail
  refine (next_any b 4 _ HS_w.out.dice (by omega) (by omega)).mono ?_
  rintro e w1 ⟨a1, rfl, l1, u1, -, hd, ho⟩; have u1 := u1 (by omega)
  have HS_w1 := Lib.hid (HS_w.out.only hd ho)
  clear hd ho HS_w ; rcases (show a1 = 0 ∨ a1 = 1 ∨ 2 ≤ a1 by omega) with rfl | rfl | h2
  · go_wp2_with fail
    go_ret; exact ⟨_, rfl, by decide, by decide, HS_w1.out⟩
  · go_wp2_with fail
    go_ret; exact ⟨_, rfl, by decide, by decide, HS_w1.out⟩
  · have g0 : (a1 == 0) = false := beq_eq_false_iff_ne.2 (by omega)
    have g1 : (a1 == 1) = false := beq_eq_false_iff_ne.2 (by omega)
    go_wp2_with fail
    refine (next_any b 7 _ HS_w1.out.dice (by omega) (by omega)).mono ?_
    rintro e w2 ⟨a2, rfl, l2, u2, -, hd, ho⟩; have u2 := u2 (by omega)
    have HS_w2 := Lib.hid (HS_w1.out.only hd ho)
    clear hd ho HS_w1 ; go_wp2_with fail
    go_ret; exact ⟨_, rfl, by omega, by omega, HS_w2.out⟩
set_option maxHeartbeats 8000000 in
set_option maxRecDepth 100000 in
theorem set143_4 (b : Nat) (w : World) (hd : Dice b w) : Calls Tryz.prog 143 #[.pointer (some ⟨b, 0, none⟩), .int .i64 4] w fun e w' => ∃ x : Int, e = .returned (.int .i64 x) ∧ 1 ≤ x ∧ x < 16 ∧ Sofar b w w' := by
  have HS_w := Lib.hid (Sofar.refl hd)
  go_enter Tryz.func143, Tryz.ntmps143
  go_wp2_with fail
  refine (next_any b 4 _ HS_w.out.dice (by omega) (by omega)).mono ?_
  rintro e w1 ⟨a1, rfl, l1, u1, -, hd, ho⟩; have u1 := u1 (by omega)
  have HS_w1 := Lib.hid (HS_w.out.only hd ho)
  clear hd ho HS_w ; rcases (show a1 = 0 ∨ a1 = 1 ∨ 2 ≤ a1 by omega) with rfl | rfl | h2
  · go_wp2_with fail
    go_ret; exact ⟨_, rfl, by decide, by decide, HS_w1.out⟩
  · go_wp2_with fail
    go_ret; exact ⟨_, rfl, by decide, by decide, HS_w1.out⟩
  · have g0 : (a1 == 0) = false := beq_eq_false_iff_ne.2 (by omega)
    have g1 : (a1 == 1) = false := beq_eq_false_iff_ne.2 (by omega)
    go_wp2_with fail
    refine (next_any b 15 _ HS_w1.out.dice (by omega) (by omega)).mono ?_
    rintro e w2 ⟨a2, rfl, l2, u2, -, hd, ho⟩; have u2 := u2 (by omega)
    have HS_w2 := Lib.hid (HS_w1.out.only hd ho)
    clear hd ho HS_w1 ; go_wp2_with fail
    go_ret; exact ⟨_, rfl, by omega, by omega, HS_w2.out⟩
set_option maxHeartbeats 8000000 in
set_option maxRecDepth 100000 in
theorem set143_5 (b : Nat) (w : World) (hd : Dice b w) : Calls Tryz.prog 143 #[.pointer (some ⟨b, 0, none⟩), .int .i64 5] w fun e w' => ∃ x : Int, e = .returned (.int .i64 x) ∧ 1 ≤ x ∧ x < 32 ∧ Sofar b w w' := by
  have HS_w := Lib.hid (Sofar.refl hd)
  go_enter Tryz.func143, Tryz.ntmps143
  go_wp2_with fail
  refine (next_any b 4 _ HS_w.out.dice (by omega) (by omega)).mono ?_
  rintro e w1 ⟨a1, rfl, l1, u1, -, hd, ho⟩; have u1 := u1 (by omega)
  have HS_w1 := Lib.hid (HS_w.out.only hd ho)
  clear hd ho HS_w ; rcases (show a1 = 0 ∨ a1 = 1 ∨ 2 ≤ a1 by omega) with rfl | rfl | h2
  · go_wp2_with fail
    go_ret; exact ⟨_, rfl, by decide, by decide, HS_w1.out⟩
  · go_wp2_with fail
    go_ret; exact ⟨_, rfl, by decide, by decide, HS_w1.out⟩
  · have g0 : (a1 == 0) = false := beq_eq_false_iff_ne.2 (by omega)
    have g1 : (a1 == 1) = false := beq_eq_false_iff_ne.2 (by omega)
    go_wp2_with fail
    refine (next_any b 31 _ HS_w1.out.dice (by omega) (by omega)).mono ?_
    rintro e w2 ⟨a2, rfl, l2, u2, -, hd, ho⟩; have u2 := u2 (by omega)
    have HS_w2 := Lib.hid (HS_w1.out.only hd ho)
    clear hd ho HS_w1 ; go_wp2_with fail
    go_ret; exact ⟨_, rfl, by omega, by omega, HS_w2.out⟩
set_option maxHeartbeats 8000000 in
set_option maxRecDepth 100000 in
theorem set143_6 (b : Nat) (w : World) (hd : Dice b w) : Calls Tryz.prog 143 #[.pointer (some ⟨b, 0, none⟩), .int .i64 6] w fun e w' => ∃ x : Int, e = .returned (.int .i64 x) ∧ 1 ≤ x ∧ x < 64 ∧ Sofar b w w' := by
  have HS_w := Lib.hid (Sofar.refl hd)
  go_enter Tryz.func143, Tryz.ntmps143
  go_wp2_with fail
  refine (next_any b 4 _ HS_w.out.dice (by omega) (by omega)).mono ?_
  rintro e w1 ⟨a1, rfl, l1, u1, -, hd, ho⟩; have u1 := u1 (by omega)
  have HS_w1 := Lib.hid (HS_w.out.only hd ho)
  clear hd ho HS_w ; rcases (show a1 = 0 ∨ a1 = 1 ∨ 2 ≤ a1 by omega) with rfl | rfl | h2
  · go_wp2_with fail
    go_ret; exact ⟨_, rfl, by decide, by decide, HS_w1.out⟩
  · go_wp2_with fail
    go_ret; exact ⟨_, rfl, by decide, by decide, HS_w1.out⟩
  · have g0 : (a1 == 0) = false := beq_eq_false_iff_ne.2 (by omega)
    have g1 : (a1 == 1) = false := beq_eq_false_iff_ne.2 (by omega)
    go_wp2_with fail
    refine (next_any b 63 _ HS_w1.out.dice (by omega) (by omega)).mono ?_
    rintro e w2 ⟨a2, rfl, l2, u2, -, hd, ho⟩; have u2 := u2 (by omega)
    have HS_w2 := Lib.hid (HS_w1.out.only hd ho)
    clear hd ho HS_w1 ; go_wp2_with fail
    go_ret; exact ⟨_, rfl, by omega, by omega, HS_w2.out⟩
set_option maxHeartbeats 8000000 in
set_option maxRecDepth 100000 in
theorem set143_7 (b : Nat) (w : World) (hd : Dice b w) : Calls Tryz.prog 143 #[.pointer (some ⟨b, 0, none⟩), .int .i64 7] w fun e w' => ∃ x : Int, e = .returned (.int .i64 x) ∧ 1 ≤ x ∧ x < 128 ∧ Sofar b w w' := by
  have HS_w := Lib.hid (Sofar.refl hd)
  go_enter Tryz.func143, Tryz.ntmps143
  go_wp2_with fail
  refine (next_any b 4 _ HS_w.out.dice (by omega) (by omega)).mono ?_
  rintro e w1 ⟨a1, rfl, l1, u1, -, hd, ho⟩; have u1 := u1 (by omega)
  have HS_w1 := Lib.hid (HS_w.out.only hd ho)
  clear hd ho HS_w ; rcases (show a1 = 0 ∨ a1 = 1 ∨ 2 ≤ a1 by omega) with rfl | rfl | h2
  · go_wp2_with fail
    go_ret; exact ⟨_, rfl, by decide, by decide, HS_w1.out⟩
  · go_wp2_with fail
    go_ret; exact ⟨_, rfl, by decide, by decide, HS_w1.out⟩
  · have g0 : (a1 == 0) = false := beq_eq_false_iff_ne.2 (by omega)
    have g1 : (a1 == 1) = false := beq_eq_false_iff_ne.2 (by omega)
    go_wp2_with fail
    refine (next_any b 127 _ HS_w1.out.dice (by omega) (by omega)).mono ?_
    rintro e w2 ⟨a2, rfl, l2, u2, -, hd, ho⟩; have u2 := u2 (by omega)
    have HS_w2 := Lib.hid (HS_w1.out.only hd ho)
    clear hd ho HS_w1 ; go_wp2_with fail
    go_ret; exact ⟨_, rfl, by omega, by omega, HS_w2.out⟩
set_option maxHeartbeats 8000000 in
set_option maxRecDepth 100000 in
theorem set143_8 (b : Nat) (w : World) (hd : Dice b w) : Calls Tryz.prog 143 #[.pointer (some ⟨b, 0, none⟩), .int .i64 8] w fun e w' => ∃ x : Int, e = .returned (.int .i64 x) ∧ 1 ≤ x ∧ x < 256 ∧ Sofar b w w' := by
  have HS_w := Lib.hid (Sofar.refl hd)
  go_enter Tryz.func143, Tryz.ntmps143
  go_wp2_with fail
  refine (next_any b 4 _ HS_w.out.dice (by omega) (by omega)).mono ?_
  rintro e w1 ⟨a1, rfl, l1, u1, -, hd, ho⟩; have u1 := u1 (by omega)
  have HS_w1 := Lib.hid (HS_w.out.only hd ho)
  clear hd ho HS_w ; rcases (show a1 = 0 ∨ a1 = 1 ∨ 2 ≤ a1 by omega) with rfl | rfl | h2
  · go_wp2_with fail
    go_ret; exact ⟨_, rfl, by decide, by decide, HS_w1.out⟩
  · go_wp2_with fail
    go_ret; exact ⟨_, rfl, by decide, by decide, HS_w1.out⟩
  · have g0 : (a1 == 0) = false := beq_eq_false_iff_ne.2 (by omega)
    have g1 : (a1 == 1) = false := beq_eq_false_iff_ne.2 (by omega)
    go_wp2_with fail
    refine (next_any b 255 _ HS_w1.out.dice (by omega) (by omega)).mono ?_
    rintro e w2 ⟨a2, rfl, l2, u2, -, hd, ho⟩; have u2 := u2 (by omega)
    have HS_w2 := Lib.hid (HS_w1.out.only hd ho)
    clear hd ho HS_w1 ; go_wp2_with fail
    go_ret; exact ⟨_, rfl, by omega, by omega, HS_w2.out⟩
set_option maxHeartbeats 8000000 in
set_option maxRecDepth 100000 in
theorem set143 (b : Nat) (n : Int) (w : World) (hd : Dice b w) (h0 : 1 ≤ n) (h1 : n ≤ 8) : Calls Tryz.prog 143 #[.pointer (some ⟨b, 0, none⟩), .int .i64 n] w fun e w' => ∃ x : Int, e = .returned (.int .i64 x) ∧ 1 ≤ x ∧ x < ((2 ^ n.toNat : Nat) : Int) ∧ Sofar b w w' := by
  rcases (show n = 1 ∨ n = 2 ∨ n = 3 ∨ n = 4 ∨ n = 5 ∨ n = 6 ∨ n = 7 ∨ n = 8 by omega) with rfl | rfl | rfl | rfl | rfl | rfl | rfl | rfl
  · exact set143_1 b w hd
  · exact set143_2 b w hd
  · exact set143_3 b w hd
  · exact set143_4 b w hd
  · exact set143_5 b w hd
  · exact set143_6 b w hd
  · exact set143_7 b w hd
  · exact set143_8 b w hd
set_option maxHeartbeats 8000000 in
set_option maxRecDepth 100000 in
theorem oddgrid131 (b : Nat) (g : Tt.Grd) (w : World) (hd : Dice b w) : Calls Tryz.prog 131 #[.pointer (some ⟨b, 0, none⟩), grdVal g] w fun e w' => ∃ g' : Tt.Grd, e = .returned (grdVal g') ∧ Sofar b w w' := by
  unfold grdVal
  have hblt := hd.lt; obtain ⟨P, hP⟩ : ∃ g, g = w.heap.size := ⟨_, rfl⟩
  obtain ⟨R, hR⟩ : ∃ g, g = w.heap.size + 1 := ⟨_, rfl⟩
  obtain ⟨w0, hw0⟩ : ∃ X, X = ((w.alloc (.cells #[.int .i64 g.days, .int .i64 g.slots, .int .i64 g.begin_, .int .i64 g.mins] 90)).alloc (.cells #[.int .i64 0, .int .i64 0, .int .i64 0, .int .i64 0] 90)) := ⟨_, rfl⟩
  have HS_w0 := Lib.hid (show Sofar b w w0 from by rw [hw0]; exact (((Sofar.refl hd).alloc _).alloc _))
  have HP_w0 := Lib.hid (show Blk P #[.int .i64 g.days, .int .i64 g.slots, .int .i64 g.begin_, .int .i64 g.mins] 90 w0 from by rw [hw0, hP]; exact (Blk.new' _ _ _ (by simp)).alloc _)
  have lP : w.heap.size ≤ P := by omega
  have HR_w0 := Lib.hid (show Blk R #[.int .i64 0, .int .i64 0, .int .i64 0, .int .i64 0] 90 w0 from by rw [hw0, hR]; exact Blk.new' _ _ _ (by simp))
  have lR : w.heap.size ≤ R := by omega
  have nRP : R ≠ P := by omega
  have bP : b < P := by omega
  have bR : b < R := by omega
  go_enter Tryz.func131, Tryz.ntmps131
  go_upto_region 1 with (fail)
  rw [← hw0, ← hR, ← hP]; clear hw0 hP hR; go_wp2_with fail
  refine (next_any b 4 _ HS_w0.out.dice (by omega) (by omega)).mono ?_
  rintro e w1 ⟨a1, rfl, l1, u1, -, hd, ho⟩; have u1 := u1 (by omega)
  have HS_w1 := Lib.hid (HS_w0.out.only hd ho)
  have HP_w1 := Lib.hid (HP_w0.out.only ho (by omega))
  have HR_w1 := Lib.hid (HR_w0.out.only ho (by omega))
  clear hd ho HS_w0 HP_w0 HR_w0; rcases (show a1 = 0 ∨ a1 = 1 ∨ a1 = 2 ∨ a1 = 3 by omega) with rfl | rfl | rfl | rfl
  · have cP0 : w1.cell? ⟨P, 0, none⟩ = some (.int .i64 g.days) := HP_w1.out.cell 0
    have cP1 : w1.cell? ⟨P, 1, none⟩ = some (.int .i64 g.slots) := HP_w1.out.cell 1
    have cP2 : w1.cell? ⟨P, 2, none⟩ = some (.int .i64 g.begin_) := HP_w1.out.cell 2
    have cP3 : w1.cell? ⟨P, 3, none⟩ = some (.int .i64 g.mins) := HP_w1.out.cell 3
    have fP0 := HP_w1.out.frozen 0; have fP1 := HP_w1.out.frozen 1; have fP2 := HP_w1.out.frozen 2; have fP3 := HP_w1.out.frozen 3; go_wp2_with fail
    clear cP0 cP1 cP2 cP3 fP0 fP1 fP2 fP3; refine (next_any b 10 _ HS_w1.out.dice (by omega) (by omega)).mono ?_
    rintro e w2 ⟨a2, rfl, l2, u2, -, hd, ho⟩; have u2 := u2 (by omega)
    have HS_w2 := Lib.hid (HS_w1.out.only hd ho)
    have HP_w2 := Lib.hid (HP_w1.out.only ho (by omega))
    have HR_w2 := Lib.hid (HR_w1.out.only ho (by omega))
    clear hd ho HS_w1 HP_w1 HR_w1; have cP0 : w2.cell? ⟨P, 0, none⟩ = some (.int .i64 g.days) := HP_w2.out.cell 0
    have cP1 : w2.cell? ⟨P, 1, none⟩ = some (.int .i64 g.slots) := HP_w2.out.cell 1
    have cP2 : w2.cell? ⟨P, 2, none⟩ = some (.int .i64 g.begin_) := HP_w2.out.cell 2
    have cP3 : w2.cell? ⟨P, 3, none⟩ = some (.int .i64 g.mins) := HP_w2.out.cell 3
    have fP0 := HP_w2.out.frozen 0; have fP1 := HP_w2.out.frozen 1; have fP2 := HP_w2.out.frozen 2; have fP3 := HP_w2.out.frozen 3; go_upto_region 9 with (fail)
    clear cP0 cP1 cP2 cP3 fP0 fP1 fP2 fP3; obtain ⟨w3, hw⟩ : ∃ X, X = w2.setCell ⟨P, 0, none⟩ (.int .i64 (a2 - 1)) := ⟨_, rfl⟩
    have HS_w3 := Lib.hid (show Sofar b w w3 from by rw [hw]; exact HS_w2.out.set lP (by omega) _ _)
    have HP_w3 := Lib.hid (show Blk P #[.int .i64 (a2 - 1), .int .i64 g.slots, .int .i64 g.begin_, .int .i64 g.mins] 90 w3 from by rw [hw]; exact HP_w2.out.set 0 _)
    have HR_w3 := Lib.hid (show Blk R #[.int .i64 0, .int .i64 0, .int .i64 0, .int .i64 0] 90 w3 from by rw [hw]; exact HR_w2.out.set_other (by omega) _ _)
    rw [← hw]; clear hw HS_w2 HP_w2 HR_w2; have cP0 : w3.cell? ⟨P, 0, none⟩ = some (.int .i64 (a2 - 1)) := HP_w3.out.cell 0
    have cP1 : w3.cell? ⟨P, 1, none⟩ = some (.int .i64 g.slots) := HP_w3.out.cell 1
    have cP2 : w3.cell? ⟨P, 2, none⟩ = some (.int .i64 g.begin_) := HP_w3.out.cell 2
    have cP3 : w3.cell? ⟨P, 3, none⟩ = some (.int .i64 g.mins) := HP_w3.out.cell 3
    have cR0 : w3.cell? ⟨R, 0, none⟩ = some (.int .i64 0) := HR_w3.out.cell 0
    have cR1 : w3.cell? ⟨R, 1, none⟩ = some (.int .i64 0) := HR_w3.out.cell 1
    have cR2 : w3.cell? ⟨R, 2, none⟩ = some (.int .i64 0) := HR_w3.out.cell 2
    have cR3 : w3.cell? ⟨R, 3, none⟩ = some (.int .i64 0) := HR_w3.out.cell 3
    have fR0 := HR_w3.out.frozen 0; have fR1 := HR_w3.out.frozen 1; have fR2 := HR_w3.out.frozen 2; have fR3 := HR_w3.out.frozen 3; go_wp2_with fail
    obtain ⟨Y, hY, hBk, hE⟩ := fillS HR_w3.out HS_w3.out lR (by omega) [.int .i64 (a2 - 1), .int .i64 g.slots, .int .i64 g.begin_, .int .i64 g.mins] rfl
    simp only [setAll, Nat.zero_add] at hY
    rw [← hY]; clear cR0 cR1 cR2 cR3 fR0 fR1 fR2 fR3; clear hY; have r0 := hBk.cell 0; have r1 := hBk.cell 1; have r2 := hBk.cell 2; have r3 := hBk.cell 3; simp only [List.getElem?_toArray, List.getElem?_cons_zero, List.getElem?_cons_succ] at r0 r1 r2 r3
    refine bodyPost_ret (v := .agg #[.int .i64 (a2 - 1), .int .i64 g.slots, .int .i64 g.begin_, .int .i64 g.mins]) (by simp [results, Tryz.results131, go_sem, r0, r1, r2, r3]) rfl ?_
    exact ⟨⟨(a2 - 1), g.slots, g.begin_, g.mins⟩, rfl, hE⟩
  · obtain ⟨I, hI⟩ : ∃ g, g = w1.heap.size := ⟨_, rfl⟩
    obtain ⟨w2, hw⟩ : ∃ X, X = w1.alloc (.cells #[.int .i64 0, .int .i64 24, .int .i64 25, .int .i64 (-1)] 3) := ⟨_, rfl⟩
    have HS_w2 := Lib.hid (show Sofar b w w2 from by rw [hw]; exact HS_w1.out.alloc _)
    have HP_w2 := Lib.hid (show Blk P #[.int .i64 g.days, .int .i64 g.slots, .int .i64 g.begin_, .int .i64 g.mins] 90 w2 from by rw [hw]; exact HP_w1.out.alloc _)
    have HR_w2 := Lib.hid (show Blk R #[.int .i64 0, .int .i64 0, .int .i64 0, .int .i64 0] 90 w2 from by rw [hw]; exact HR_w1.out.alloc _)
    have HI_w2 := Lib.hid (show Blk I #[.int .i64 0, .int .i64 24, .int .i64 25, .int .i64 (-1)] 3 w2 from by rw [hw, hI]; exact Blk.new w1 _ _)
    have lI : w.heap.size ≤ I := by have := HS_w1.out.but.size; omega
    have nIP : I ≠ P := by have := HP_w1.out.lt; omega
    have nIR : I ≠ R := by have := HR_w1.out.lt; omega
    go_wp2_with fail
    rw [← hw, ← hI]; clear hw hI; clear HS_w1 HP_w1 HR_w1; refine (next_any b 4 _ HS_w2.out.dice (by omega) (by omega)).mono ?_
    rintro e w3 ⟨a3, rfl, l3, u3, -, hd, ho⟩; have u3 := u3 (by omega)
    have HS_w3 := Lib.hid (HS_w2.out.only hd ho)
    have HP_w3 := Lib.hid (HP_w2.out.only ho (by omega))
    have HR_w3 := Lib.hid (HR_w2.out.only ho (by omega))
    have HI_w3 := Lib.hid (HI_w2.out.only ho (by omega))
    clear hd ho HS_w2 HP_w2 HR_w2 HI_w2; obtain ⟨v, hv⟩ : ∃ v : Int, w3.cell? ⟨I, a3.toNat, none⟩ = some (.int .i64 v) := by rcases (show a3 = 0 ∨ a3 = 1 ∨ a3 = 2 ∨ a3 = 3 by omega) with rfl | rfl | rfl | rfl <;> exact ⟨_, HI_w3.out.cell _⟩
    have cP0 : w3.cell? ⟨P, 0, none⟩ = some (.int .i64 g.days) := HP_w3.out.cell 0
    have cP1 : w3.cell? ⟨P, 1, none⟩ = some (.int .i64 g.slots) := HP_w3.out.cell 1
    have cP2 : w3.cell? ⟨P, 2, none⟩ = some (.int .i64 g.begin_) := HP_w3.out.cell 2
    have cP3 : w3.cell? ⟨P, 3, none⟩ = some (.int .i64 g.mins) := HP_w3.out.cell 3
    have fP0 := HP_w3.out.frozen 0; have fP1 := HP_w3.out.frozen 1; have fP2 := HP_w3.out.frozen 2; have fP3 := HP_w3.out.frozen 3; go_upto_region 9 with (fail)
    clear cP0 cP1 cP2 cP3 fP0 fP1 fP2 fP3; clear hv; obtain ⟨w4, hw⟩ : ∃ X, X = w3.setCell ⟨P, 1, none⟩ (.int .i64 v) := ⟨_, rfl⟩
    have HS_w4 := Lib.hid (show Sofar b w w4 from by rw [hw]; exact HS_w3.out.set lP (by omega) _ _)
    have HP_w4 := Lib.hid (show Blk P #[.int .i64 g.days, .int .i64 v, .int .i64 g.begin_, .int .i64 g.mins] 90 w4 from by rw [hw]; exact HP_w3.out.set 1 _)
    have HR_w4 := Lib.hid (show Blk R #[.int .i64 0, .int .i64 0, .int .i64 0, .int .i64 0] 90 w4 from by rw [hw]; exact HR_w3.out.set_other (by omega) _ _)
    have HI_w4 := Lib.hid (show Blk I #[.int .i64 0, .int .i64 24, .int .i64 25, .int .i64 (-1)] 3 w4 from by rw [hw]; exact HI_w3.out.set_other (by omega) _ _)
    rw [← hw]; clear hw HS_w3 HP_w3 HR_w3 HI_w3; have cP0 : w4.cell? ⟨P, 0, none⟩ = some (.int .i64 g.days) := HP_w4.out.cell 0
    have cP1 : w4.cell? ⟨P, 1, none⟩ = some (.int .i64 v) := HP_w4.out.cell 1
    have cP2 : w4.cell? ⟨P, 2, none⟩ = some (.int .i64 g.begin_) := HP_w4.out.cell 2
    have cP3 : w4.cell? ⟨P, 3, none⟩ = some (.int .i64 g.mins) := HP_w4.out.cell 3
    have cR0 : w4.cell? ⟨R, 0, none⟩ = some (.int .i64 0) := HR_w4.out.cell 0
    have cR1 : w4.cell? ⟨R, 1, none⟩ = some (.int .i64 0) := HR_w4.out.cell 1
    have cR2 : w4.cell? ⟨R, 2, none⟩ = some (.int .i64 0) := HR_w4.out.cell 2
    have cR3 : w4.cell? ⟨R, 3, none⟩ = some (.int .i64 0) := HR_w4.out.cell 3
    have fR0 := HR_w4.out.frozen 0; have fR1 := HR_w4.out.frozen 1; have fR2 := HR_w4.out.frozen 2; have fR3 := HR_w4.out.frozen 3; go_wp2_with fail
    obtain ⟨Y, hY, hBk, hE⟩ := fillS HR_w4.out HS_w4.out lR (by omega) [.int .i64 g.days, .int .i64 v, .int .i64 g.begin_, .int .i64 g.mins] rfl
    simp only [setAll, Nat.zero_add] at hY
    rw [← hY]; clear cR0 cR1 cR2 cR3 fR0 fR1 fR2 fR3; clear hY; have r0 := hBk.cell 0; have r1 := hBk.cell 1; have r2 := hBk.cell 2; have r3 := hBk.cell 3; simp only [List.getElem?_toArray, List.getElem?_cons_zero, List.getElem?_cons_succ] at r0 r1 r2 r3
    refine bodyPost_ret (v := .agg #[.int .i64 g.days, .int .i64 v, .int .i64 g.begin_, .int .i64 g.mins]) (by simp [results, Tryz.results131, go_sem, r0, r1, r2, r3]) rfl ?_
    exact ⟨⟨g.days, v, g.begin_, g.mins⟩, rfl, hE⟩
  · obtain ⟨I, hI⟩ : ∃ g, g = w1.heap.size := ⟨_, rfl⟩
    obtain ⟨w2, hw⟩ : ∃ X, X = w1.alloc (.cells #[.int .i64 (-1), .int .i64 0, .int .i64 1439, .int .i64 1440] 3) := ⟨_, rfl⟩
    have HS_w2 := Lib.hid (show Sofar b w w2 from by rw [hw]; exact HS_w1.out.alloc _)
    have HP_w2 := Lib.hid (show Blk P #[.int .i64 g.days, .int .i64 g.slots, .int .i64 g.begin_, .int .i64 g.mins] 90 w2 from by rw [hw]; exact HP_w1.out.alloc _)
    have HR_w2 := Lib.hid (show Blk R #[.int .i64 0, .int .i64 0, .int .i64 0, .int .i64 0] 90 w2 from by rw [hw]; exact HR_w1.out.alloc _)
    have HI_w2 := Lib.hid (show Blk I #[.int .i64 (-1), .int .i64 0, .int .i64 1439, .int .i64 1440] 3 w2 from by rw [hw, hI]; exact Blk.new w1 _ _)
    have lI : w.heap.size ≤ I := by have := HS_w1.out.but.size; omega
    have nIP : I ≠ P := by have := HP_w1.out.lt; omega
    have nIR : I ≠ R := by have := HR_w1.out.lt; omega
    go_wp2_with fail
    rw [← hw, ← hI]; clear hw hI; clear HS_w1 HP_w1 HR_w1; refine (next_any b 4 _ HS_w2.out.dice (by omega) (by omega)).mono ?_
    rintro e w3 ⟨a3, rfl, l3, u3, -, hd, ho⟩; have u3 := u3 (by omega)
    have HS_w3 := Lib.hid (HS_w2.out.only hd ho)
    have HP_w3 := Lib.hid (HP_w2.out.only ho (by omega))
    have HR_w3 := Lib.hid (HR_w2.out.only ho (by omega))
    have HI_w3 := Lib.hid (HI_w2.out.only ho (by omega))
    clear hd ho HS_w2 HP_w2 HR_w2 HI_w2; obtain ⟨v, hv⟩ : ∃ v : Int, w3.cell? ⟨I, a3.toNat, none⟩ = some (.int .i64 v) := by rcases (show a3 = 0 ∨ a3 = 1 ∨ a3 = 2 ∨ a3 = 3 by omega) with rfl | rfl | rfl | rfl <;> exact ⟨_, HI_w3.out.cell _⟩
    have cP0 : w3.cell? ⟨P, 0, none⟩ = some (.int .i64 g.days) := HP_w3.out.cell 0
    have cP1 : w3.cell? ⟨P, 1, none⟩ = some (.int .i64 g.slots) := HP_w3.out.cell 1
    have cP2 : w3.cell? ⟨P, 2, none⟩ = some (.int .i64 g.begin_) := HP_w3.out.cell 2
    have cP3 : w3.cell? ⟨P, 3, none⟩ = some (.int .i64 g.mins) := HP_w3.out.cell 3
    have fP0 := HP_w3.out.frozen 0; have fP1 := HP_w3.out.frozen 1; have fP2 := HP_w3.out.frozen 2; have fP3 := HP_w3.out.frozen 3; go_upto_region 9 with (fail)
    clear cP0 cP1 cP2 cP3 fP0 fP1 fP2 fP3; clear hv; obtain ⟨w4, hw⟩ : ∃ X, X = w3.setCell ⟨P, 2, none⟩ (.int .i64 v) := ⟨_, rfl⟩
    have HS_w4 := Lib.hid (show Sofar b w w4 from by rw [hw]; exact HS_w3.out.set lP (by omega) _ _)
    have HP_w4 := Lib.hid (show Blk P #[.int .i64 g.days, .int .i64 g.slots, .int .i64 v, .int .i64 g.mins] 90 w4 from by rw [hw]; exact HP_w3.out.set 2 _)
    have HR_w4 := Lib.hid (show Blk R #[.int .i64 0, .int .i64 0, .int .i64 0, .int .i64 0] 90 w4 from by rw [hw]; exact HR_w3.out.set_other (by omega) _ _)
    have HI_w4 := Lib.hid (show Blk I #[.int .i64 (-1), .int .i64 0, .int .i64 1439, .int .i64 1440] 3 w4 from by rw [hw]; exact HI_w3.out.set_other (by omega) _ _)
    rw [← hw]; clear hw HS_w3 HP_w3 HR_w3 HI_w3; have cP0 : w4.cell? ⟨P, 0, none⟩ = some (.int .i64 g.days) := HP_w4.out.cell 0
    have cP1 : w4.cell? ⟨P, 1, none⟩ = some (.int .i64 g.slots) := HP_w4.out.cell 1
    have cP2 : w4.cell? ⟨P, 2, none⟩ = some (.int .i64 v) := HP_w4.out.cell 2
    have cP3 : w4.cell? ⟨P, 3, none⟩ = some (.int .i64 g.mins) := HP_w4.out.cell 3
    have cR0 : w4.cell? ⟨R, 0, none⟩ = some (.int .i64 0) := HR_w4.out.cell 0
    have cR1 : w4.cell? ⟨R, 1, none⟩ = some (.int .i64 0) := HR_w4.out.cell 1
    have cR2 : w4.cell? ⟨R, 2, none⟩ = some (.int .i64 0) := HR_w4.out.cell 2
    have cR3 : w4.cell? ⟨R, 3, none⟩ = some (.int .i64 0) := HR_w4.out.cell 3
    have fR0 := HR_w4.out.frozen 0; have fR1 := HR_w4.out.frozen 1; have fR2 := HR_w4.out.frozen 2; have fR3 := HR_w4.out.frozen 3; go_wp2_with fail
    obtain ⟨Y, hY, hBk, hE⟩ := fillS HR_w4.out HS_w4.out lR (by omega) [.int .i64 g.days, .int .i64 g.slots, .int .i64 v, .int .i64 g.mins] rfl
    simp only [setAll, Nat.zero_add] at hY
    rw [← hY]; clear cR0 cR1 cR2 cR3 fR0 fR1 fR2 fR3; clear hY; have r0 := hBk.cell 0; have r1 := hBk.cell 1; have r2 := hBk.cell 2; have r3 := hBk.cell 3; simp only [List.getElem?_toArray, List.getElem?_cons_zero, List.getElem?_cons_succ] at r0 r1 r2 r3
    refine bodyPost_ret (v := .agg #[.int .i64 g.days, .int .i64 g.slots, .int .i64 v, .int .i64 g.mins]) (by simp [results, Tryz.results131, go_sem, r0, r1, r2, r3]) rfl ?_
    exact ⟨⟨g.days, g.slots, v, g.mins⟩, rfl, hE⟩
  · obtain ⟨I, hI⟩ : ∃ g, g = w1.heap.size := ⟨_, rfl⟩
    obtain ⟨w2, hw⟩ : ∃ X, X = w1.alloc (.cells #[.int .i64 4, .int .i64 5, .int .i64 120, .int .i64 121] 3) := ⟨_, rfl⟩
    have HS_w2 := Lib.hid (show Sofar b w w2 from by rw [hw]; exact HS_w1.out.alloc _)
    have HP_w2 := Lib.hid (show Blk P #[.int .i64 g.days, .int .i64 g.slots, .int .i64 g.begin_, .int .i64 g.mins] 90 w2 from by rw [hw]; exact HP_w1.out.alloc _)
    have HR_w2 := Lib.hid (show Blk R #[.int .i64 0, .int .i64 0, .int .i64 0, .int .i64 0] 90 w2 from by rw [hw]; exact HR_w1.out.alloc _)
    have HI_w2 := Lib.hid (show Blk I #[.int .i64 4, .int .i64 5, .int .i64 120, .int .i64 121] 3 w2 from by rw [hw, hI]; exact Blk.new w1 _ _)
    have lI : w.heap.size ≤ I := by have := HS_w1.out.but.size; omega
    have nIP : I ≠ P := by have := HP_w1.out.lt; omega
    have nIR : I ≠ R := by have := HR_w1.out.lt; omega
    go_wp2_with fail
    rw [← hw, ← hI]; clear hw hI; clear HS_w1 HP_w1 HR_w1; refine (next_any b 4 _ HS_w2.out.dice (by omega) (by omega)).mono ?_
    rintro e w3 ⟨a3, rfl, l3, u3, -, hd, ho⟩; have u3 := u3 (by omega)
    have HS_w3 := Lib.hid (HS_w2.out.only hd ho)
    have HP_w3 := Lib.hid (HP_w2.out.only ho (by omega))
    have HR_w3 := Lib.hid (HR_w2.out.only ho (by omega))
    have HI_w3 := Lib.hid (HI_w2.out.only ho (by omega))
    clear hd ho HS_w2 HP_w2 HR_w2 HI_w2; obtain ⟨v, hv⟩ : ∃ v : Int, w3.cell? ⟨I, a3.toNat, none⟩ = some (.int .i64 v) := by rcases (show a3 = 0 ∨ a3 = 1 ∨ a3 = 2 ∨ a3 = 3 by omega) with rfl | rfl | rfl | rfl <;> exact ⟨_, HI_w3.out.cell _⟩
    have cP0 : w3.cell? ⟨P, 0, none⟩ = some (.int .i64 g.days) := HP_w3.out.cell 0
    have cP1 : w3.cell? ⟨P, 1, none⟩ = some (.int .i64 g.slots) := HP_w3.out.cell 1
    have cP2 : w3.cell? ⟨P, 2, none⟩ = some (.int .i64 g.begin_) := HP_w3.out.cell 2
    have cP3 : w3.cell? ⟨P, 3, none⟩ = some (.int .i64 g.mins) := HP_w3.out.cell 3
    have fP0 := HP_w3.out.frozen 0; have fP1 := HP_w3.out.frozen 1; have fP2 := HP_w3.out.frozen 2; have fP3 := HP_w3.out.frozen 3; go_upto_region 9 with (fail)
    clear cP0 cP1 cP2 cP3 fP0 fP1 fP2 fP3; clear hv; obtain ⟨w4, hw⟩ : ∃ X, X = w3.setCell ⟨P, 3, none⟩ (.int .i64 v) := ⟨_, rfl⟩
    have HS_w4 := Lib.hid (show Sofar b w w4 from by rw [hw]; exact HS_w3.out.set lP (by omega) _ _)
    have HP_w4 := Lib.hid (show Blk P #[.int .i64 g.days, .int .i64 g.slots, .int .i64 g.begin_, .int .i64 v] 90 w4 from by rw [hw]; exact HP_w3.out.set 3 _)
    have HR_w4 := Lib.hid (show Blk R #[.int .i64 0, .int .i64 0, .int .i64 0, .int .i64 0] 90 w4 from by rw [hw]; exact HR_w3.out.set_other (by omega) _ _)
    have HI_w4 := Lib.hid (show Blk I #[.int .i64 4, .int .i64 5, .int .i64 120, .int .i64 121] 3 w4 from by rw [hw]; exact HI_w3.out.set_other (by omega) _ _)
    rw [← hw]; clear hw HS_w3 HP_w3 HR_w3 HI_w3; have cP0 : w4.cell? ⟨P, 0, none⟩ = some (.int .i64 g.days) := HP_w4.out.cell 0
    have cP1 : w4.cell? ⟨P, 1, none⟩ = some (.int .i64 g.slots) := HP_w4.out.cell 1
    have cP2 : w4.cell? ⟨P, 2, none⟩ = some (.int .i64 g.begin_) := HP_w4.out.cell 2
    have cP3 : w4.cell? ⟨P, 3, none⟩ = some (.int .i64 v) := HP_w4.out.cell 3
    have cR0 : w4.cell? ⟨R, 0, none⟩ = some (.int .i64 0) := HR_w4.out.cell 0
    have cR1 : w4.cell? ⟨R, 1, none⟩ = some (.int .i64 0) := HR_w4.out.cell 1
    have cR2 : w4.cell? ⟨R, 2, none⟩ = some (.int .i64 0) := HR_w4.out.cell 2
    have cR3 : w4.cell? ⟨R, 3, none⟩ = some (.int .i64 0) := HR_w4.out.cell 3
    have fR0 := HR_w4.out.frozen 0; have fR1 := HR_w4.out.frozen 1; have fR2 := HR_w4.out.frozen 2; have fR3 := HR_w4.out.frozen 3; go_wp2_with fail
    obtain ⟨Y, hY, hBk, hE⟩ := fillS HR_w4.out HS_w4.out lR (by omega) [.int .i64 g.days, .int .i64 g.slots, .int .i64 g.begin_, .int .i64 v] rfl
    simp only [setAll, Nat.zero_add] at hY
    rw [← hY]; clear cR0 cR1 cR2 cR3 fR0 fR1 fR2 fR3; clear hY; have r0 := hBk.cell 0; have r1 := hBk.cell 1; have r2 := hBk.cell 2; have r3 := hBk.cell 3; simp only [List.getElem?_toArray, List.getElem?_cons_zero, List.getElem?_cons_succ] at r0 r1 r2 r3
    refine bodyPost_ret (v := .agg #[.int .i64 g.days, .int .i64 g.slots, .int .i64 g.begin_, .int .i64 v]) (by simp [results, Tryz.results131, go_sem, r0, r1, r2, r3]) rfl ?_
    exact ⟨⟨g.days, g.slots, g.begin_, v⟩, rfl, hE⟩
set_option maxHeartbeats 8000000 in
set_option maxRecDepth 100000 in
theorem oddtime202 (b : Nat) (g : Tt.Tim) (w : World) (hd : Dice b w) : Calls Tryz.prog 202 #[.pointer (some ⟨b, 0, none⟩), timVal g] w fun e w' => ∃ g' : Tt.Tim, e = .returned (timVal g') ∧ Sofar b w w' := by
  unfold timVal
  have hblt := hd.lt; obtain ⟨P, hP⟩ : ∃ g, g = w.heap.size := ⟨_, rfl⟩
  obtain ⟨R, hR⟩ : ∃ g, g = w.heap.size + 1 := ⟨_, rfl⟩
  obtain ⟨w0, hw0⟩ : ∃ X, X = ((w.alloc (.cells #[.int .i64 g.weeks, .int .i64 g.day, .int .i64 g.start, .int .i64 g.len] 105)).alloc (.cells #[.int .i64 0, .int .i64 0, .int .i64 0, .int .i64 0] 105)) := ⟨_, rfl⟩
  have HS_w0 := Lib.hid (show Sofar b w w0 from by rw [hw0]; exact (((Sofar.refl hd).alloc _).alloc _))
  have HP_w0 := Lib.hid (show Blk P #[.int .i64 g.weeks, .int .i64 g.day, .int .i64 g.start, .int .i64 g.len] 105 w0 from by rw [hw0, hP]; exact (Blk.new' _ _ _ (by simp)).alloc _)
  have lP : w.heap.size ≤ P := by omega
  have HR_w0 := Lib.hid (show Blk R #[.int .i64 0, .int .i64 0, .int .i64 0, .int .i64 0] 105 w0 from by rw [hw0, hR]; exact Blk.new' _ _ _ (by simp))
  have lR : w.heap.size ≤ R := by omega
  have nRP : R ≠ P := by omega
  have bP : b < P := by omega
  have bR : b < R := by omega
  go_enter Tryz.func202, Tryz.ntmps202
  go_upto_region 1 with (fail)
  rw [← hw0, ← hR, ← hP]; clear hw0 hP hR; go_wp2_with fail
  refine (next_any b 4 _ HS_w0.out.dice (by omega) (by omega)).mono ?_
  rintro e w1 ⟨a1, rfl, l1, u1, -, hd, ho⟩; have u1 := u1 (by omega)
  have HS_w1 := Lib.hid (HS_w0.out.only hd ho)
  have HP_w1 := Lib.hid (HP_w0.out.only ho (by omega))
  have HR_w1 := Lib.hid (HR_w0.out.only ho (by omega))
  clear hd ho HS_w0 HP_w0 HR_w0; rcases (show a1 = 0 ∨ a1 = 1 ∨ a1 = 2 ∨ a1 = 3 by omega) with rfl | rfl | rfl | rfl
  · obtain ⟨I, hI⟩ : ∃ g, g = w1.heap.size := ⟨_, rfl⟩
    obtain ⟨w2, hw⟩ : ∃ X, X = w1.alloc (.cells #[.int .i64 0, .int .i64 (-1), .int .i64 1048576, .int .i64 1048575] 3) := ⟨_, rfl⟩
    have HS_w2 := Lib.hid (show Sofar b w w2 from by rw [hw]; exact HS_w1.out.alloc _)
    have HP_w2 := Lib.hid (show Blk P #[.int .i64 g.weeks, .int .i64 g.day, .int .i64 g.start, .int .i64 g.len] 105 w2 from by rw [hw]; exact HP_w1.out.alloc _)
    have HR_w2 := Lib.hid (show Blk R #[.int .i64 0, .int .i64 0, .int .i64 0, .int .i64 0] 105 w2 from by rw [hw]; exact HR_w1.out.alloc _)
    have HI_w2 := Lib.hid (show Blk I #[.int .i64 0, .int .i64 (-1), .int .i64 1048576, .int .i64 1048575] 3 w2 from by rw [hw, hI]; exact Blk.new w1 _ _)
    have lI : w.heap.size ≤ I := by have := HS_w1.out.but.size; omega
    have nIP : I ≠ P := by have := HP_w1.out.lt; omega
    have nIR : I ≠ R := by have := HR_w1.out.lt; omega
    go_wp2_with fail
    rw [← hw, ← hI]; clear hw hI; clear HS_w1 HP_w1 HR_w1; refine (next_any b 4 _ HS_w2.out.dice (by omega) (by omega)).mono ?_
    rintro e w3 ⟨a3, rfl, l3, u3, -, hd, ho⟩; have u3 := u3 (by omega)
    have HS_w3 := Lib.hid (HS_w2.out.only hd ho)
    have HP_w3 := Lib.hid (HP_w2.out.only ho (by omega))
    have HR_w3 := Lib.hid (HR_w2.out.only ho (by omega))
    have HI_w3 := Lib.hid (HI_w2.out.only ho (by omega))
    clear hd ho HS_w2 HP_w2 HR_w2 HI_w2; obtain ⟨v, hv⟩ : ∃ v : Int, w3.cell? ⟨I, a3.toNat, none⟩ = some (.int .i64 v) := by rcases (show a3 = 0 ∨ a3 = 1 ∨ a3 = 2 ∨ a3 = 3 by omega) with rfl | rfl | rfl | rfl <;> exact ⟨_, HI_w3.out.cell _⟩
    have cP0 : w3.cell? ⟨P, 0, none⟩ = some (.int .i64 g.weeks) := HP_w3.out.cell 0
    have cP1 : w3.cell? ⟨P, 1, none⟩ = some (.int .i64 g.day) := HP_w3.out.cell 1
    have cP2 : w3.cell? ⟨P, 2, none⟩ = some (.int .i64 g.start) := HP_w3.out.cell 2
    have cP3 : w3.cell? ⟨P, 3, none⟩ = some (.int .i64 g.len) := HP_w3.out.cell 3
    have fP0 := HP_w3.out.frozen 0; have fP1 := HP_w3.out.frozen 1; have fP2 := HP_w3.out.frozen 2; have fP3 := HP_w3.out.frozen 3; go_upto_region 9 with (fail)
    clear cP0 cP1 cP2 cP3 fP0 fP1 fP2 fP3; clear hv; obtain ⟨w4, hw⟩ : ∃ X, X = w3.setCell ⟨P, 0, none⟩ (.int .i64 v) := ⟨_, rfl⟩
    have HS_w4 := Lib.hid (show Sofar b w w4 from by rw [hw]; exact HS_w3.out.set lP (by omega) _ _)
    have HP_w4 := Lib.hid (show Blk P #[.int .i64 v, .int .i64 g.day, .int .i64 g.start, .int .i64 g.len] 105 w4 from by rw [hw]; exact HP_w3.out.set 0 _)
    have HR_w4 := Lib.hid (show Blk R #[.int .i64 0, .int .i64 0, .int .i64 0, .int .i64 0] 105 w4 from by rw [hw]; exact HR_w3.out.set_other (by omega) _ _)
    have HI_w4 := Lib.hid (show Blk I #[.int .i64 0, .int .i64 (-1), .int .i64 1048576, .int .i64 1048575] 3 w4 from by rw [hw]; exact HI_w3.out.set_other (by omega) _ _)
    rw [← hw]; clear hw HS_w3 HP_w3 HR_w3 HI_w3; have cP0 : w4.cell? ⟨P, 0, none⟩ = some (.int .i64 v) := HP_w4.out.cell 0
    have cP1 : w4.cell? ⟨P, 1, none⟩ = some (.int .i64 g.day) := HP_w4.out.cell 1
    have cP2 : w4.cell? ⟨P, 2, none⟩ = some (.int .i64 g.start) := HP_w4.out.cell 2
    have cP3 : w4.cell? ⟨P, 3, none⟩ = some (.int .i64 g.len) := HP_w4.out.cell 3
    have cR0 : w4.cell? ⟨R, 0, none⟩ = some (.int .i64 0) := HR_w4.out.cell 0
    have cR1 : w4.cell? ⟨R, 1, none⟩ = some (.int .i64 0) := HR_w4.out.cell 1
    have cR2 : w4.cell? ⟨R, 2, none⟩ = some (.int .i64 0) := HR_w4.out.cell 2
    have cR3 : w4.cell? ⟨R, 3, none⟩ = some (.int .i64 0) := HR_w4.out.cell 3
    have fR0 := HR_w4.out.frozen 0; have fR1 := HR_w4.out.frozen 1; have fR2 := HR_w4.out.frozen 2; have fR3 := HR_w4.out.frozen 3; go_wp2_with fail
    obtain ⟨Y, hY, hBk, hE⟩ := fillS HR_w4.out HS_w4.out lR (by omega) [.int .i64 v, .int .i64 g.day, .int .i64 g.start, .int .i64 g.len] rfl
    simp only [setAll, Nat.zero_add] at hY
    rw [← hY]; clear cR0 cR1 cR2 cR3 fR0 fR1 fR2 fR3; clear hY; have r0 := hBk.cell 0; have r1 := hBk.cell 1; have r2 := hBk.cell 2; have r3 := hBk.cell 3; simp only [List.getElem?_toArray, List.getElem?_cons_zero, List.getElem?_cons_succ] at r0 r1 r2 r3
    refine bodyPost_ret (v := .agg #[.int .i64 v, .int .i64 g.day, .int .i64 g.start, .int .i64 g.len]) (by simp [results, Tryz.results202, go_sem, r0, r1, r2, r3]) rfl ?_
    exact ⟨⟨v, g.day, g.start, g.len⟩, rfl, hE⟩
  · obtain ⟨I, hI⟩ : ∃ g, g = w1.heap.size := ⟨_, rfl⟩
    obtain ⟨w2, hw⟩ : ∃ X, X = w1.alloc (.cells #[.int .i64 (-1), .int .i64 6, .int .i64 7] 3) := ⟨_, rfl⟩
    have HS_w2 := Lib.hid (show Sofar b w w2 from by rw [hw]; exact HS_w1.out.alloc _)
    have HP_w2 := Lib.hid (show Blk P #[.int .i64 g.weeks, .int .i64 g.day, .int .i64 g.start, .int .i64 g.len] 105 w2 from by rw [hw]; exact HP_w1.out.alloc _)
    have HR_w2 := Lib.hid (show Blk R #[.int .i64 0, .int .i64 0, .int .i64 0, .int .i64 0] 105 w2 from by rw [hw]; exact HR_w1.out.alloc _)
    have HI_w2 := Lib.hid (show Blk I #[.int .i64 (-1), .int .i64 6, .int .i64 7] 3 w2 from by rw [hw, hI]; exact Blk.new w1 _ _)
    have lI : w.heap.size ≤ I := by have := HS_w1.out.but.size; omega
    have nIP : I ≠ P := by have := HP_w1.out.lt; omega
    have nIR : I ≠ R := by have := HR_w1.out.lt; omega
    go_wp2_with fail
    rw [← hw, ← hI]; clear hw hI; clear HS_w1 HP_w1 HR_w1; refine (next_any b 3 _ HS_w2.out.dice (by omega) (by omega)).mono ?_
    rintro e w3 ⟨a3, rfl, l3, u3, -, hd, ho⟩; have u3 := u3 (by omega)
    have HS_w3 := Lib.hid (HS_w2.out.only hd ho)
    have HP_w3 := Lib.hid (HP_w2.out.only ho (by omega))
    have HR_w3 := Lib.hid (HR_w2.out.only ho (by omega))
    have HI_w3 := Lib.hid (HI_w2.out.only ho (by omega))
    clear hd ho HS_w2 HP_w2 HR_w2 HI_w2; obtain ⟨v, hv⟩ : ∃ v : Int, w3.cell? ⟨I, a3.toNat, none⟩ = some (.int .i64 v) := by rcases (show a3 = 0 ∨ a3 = 1 ∨ a3 = 2 by omega) with rfl | rfl | rfl <;> exact ⟨_, HI_w3.out.cell _⟩
    have cP0 : w3.cell? ⟨P, 0, none⟩ = some (.int .i64 g.weeks) := HP_w3.out.cell 0
    have cP1 : w3.cell? ⟨P, 1, none⟩ = some (.int .i64 g.day) := HP_w3.out.cell 1
    have cP2 : w3.cell? ⟨P, 2, none⟩ = some (.int .i64 g.start) := HP_w3.out.cell 2
    have cP3 : w3.cell? ⟨P, 3, none⟩ = some (.int .i64 g.len) := HP_w3.out.cell 3
    have fP0 := HP_w3.out.frozen 0; have fP1 := HP_w3.out.frozen 1; have fP2 := HP_w3.out.frozen 2; have fP3 := HP_w3.out.frozen 3; go_upto_region 9 with (fail)
    clear cP0 cP1 cP2 cP3 fP0 fP1 fP2 fP3; clear hv; obtain ⟨w4, hw⟩ : ∃ X, X = w3.setCell ⟨P, 1, none⟩ (.int .i64 v) := ⟨_, rfl⟩
    have HS_w4 := Lib.hid (show Sofar b w w4 from by rw [hw]; exact HS_w3.out.set lP (by omega) _ _)
    have HP_w4 := Lib.hid (show Blk P #[.int .i64 g.weeks, .int .i64 v, .int .i64 g.start, .int .i64 g.len] 105 w4 from by rw [hw]; exact HP_w3.out.set 1 _)
    have HR_w4 := Lib.hid (show Blk R #[.int .i64 0, .int .i64 0, .int .i64 0, .int .i64 0] 105 w4 from by rw [hw]; exact HR_w3.out.set_other (by omega) _ _)
    have HI_w4 := Lib.hid (show Blk I #[.int .i64 (-1), .int .i64 6, .int .i64 7] 3 w4 from by rw [hw]; exact HI_w3.out.set_other (by omega) _ _)
    rw [← hw]; clear hw HS_w3 HP_w3 HR_w3 HI_w3; have cP0 : w4.cell? ⟨P, 0, none⟩ = some (.int .i64 g.weeks) := HP_w4.out.cell 0
    have cP1 : w4.cell? ⟨P, 1, none⟩ = some (.int .i64 v) := HP_w4.out.cell 1
    have cP2 : w4.cell? ⟨P, 2, none⟩ = some (.int .i64 g.start) := HP_w4.out.cell 2
    have cP3 : w4.cell? ⟨P, 3, none⟩ = some (.int .i64 g.len) := HP_w4.out.cell 3
    have cR0 : w4.cell? ⟨R, 0, none⟩ = some (.int .i64 0) := HR_w4.out.cell 0
    have cR1 : w4.cell? ⟨R, 1, none⟩ = some (.int .i64 0) := HR_w4.out.cell 1
    have cR2 : w4.cell? ⟨R, 2, none⟩ = some (.int .i64 0) := HR_w4.out.cell 2
    have cR3 : w4.cell? ⟨R, 3, none⟩ = some (.int .i64 0) := HR_w4.out.cell 3
    have fR0 := HR_w4.out.frozen 0; have fR1 := HR_w4.out.frozen 1; have fR2 := HR_w4.out.frozen 2; have fR3 := HR_w4.out.frozen 3; go_wp2_with fail
    obtain ⟨Y, hY, hBk, hE⟩ := fillS HR_w4.out HS_w4.out lR (by omega) [.int .i64 g.weeks, .int .i64 v, .int .i64 g.start, .int .i64 g.len] rfl
    simp only [setAll, Nat.zero_add] at hY
    rw [← hY]; clear cR0 cR1 cR2 cR3 fR0 fR1 fR2 fR3; clear hY; have r0 := hBk.cell 0; have r1 := hBk.cell 1; have r2 := hBk.cell 2; have r3 := hBk.cell 3; simp only [List.getElem?_toArray, List.getElem?_cons_zero, List.getElem?_cons_succ] at r0 r1 r2 r3
    refine bodyPost_ret (v := .agg #[.int .i64 g.weeks, .int .i64 v, .int .i64 g.start, .int .i64 g.len]) (by simp [results, Tryz.results202, go_sem, r0, r1, r2, r3]) rfl ?_
    exact ⟨⟨g.weeks, v, g.start, g.len⟩, rfl, hE⟩
  · obtain ⟨I, hI⟩ : ∃ g, g = w1.heap.size := ⟨_, rfl⟩
    obtain ⟨w2, hw⟩ : ∃ X, X = w1.alloc (.cells #[.int .i64 (-1), .int .i64 23, .int .i64 24, .int .i64 4611686018427387904] 3) := ⟨_, rfl⟩
    have HS_w2 := Lib.hid (show Sofar b w w2 from by rw [hw]; exact HS_w1.out.alloc _)
    have HP_w2 := Lib.hid (show Blk P #[.int .i64 g.weeks, .int .i64 g.day, .int .i64 g.start, .int .i64 g.len] 105 w2 from by rw [hw]; exact HP_w1.out.alloc _)
    have HR_w2 := Lib.hid (show Blk R #[.int .i64 0, .int .i64 0, .int .i64 0, .int .i64 0] 105 w2 from by rw [hw]; exact HR_w1.out.alloc _)
    have HI_w2 := Lib.hid (show Blk I #[.int .i64 (-1), .int .i64 23, .int .i64 24, .int .i64 4611686018427387904] 3 w2 from by rw [hw, hI]; exact Blk.new w1 _ _)
    have lI : w.heap.size ≤ I := by have := HS_w1.out.but.size; omega
    have nIP : I ≠ P := by have := HP_w1.out.lt; omega
    have nIR : I ≠ R := by have := HR_w1.out.lt; omega
    go_wp2_with fail
    rw [← hw, ← hI]; clear hw hI; clear HS_w1 HP_w1 HR_w1; refine (next_any b 4 _ HS_w2.out.dice (by omega) (by omega)).mono ?_
    rintro e w3 ⟨a3, rfl, l3, u3, -, hd, ho⟩; have u3 := u3 (by omega)
    have HS_w3 := Lib.hid (HS_w2.out.only hd ho)
    have HP_w3 := Lib.hid (HP_w2.out.only ho (by omega))
    have HR_w3 := Lib.hid (HR_w2.out.only ho (by omega))
    have HI_w3 := Lib.hid (HI_w2.out.only ho (by omega))
    clear hd ho HS_w2 HP_w2 HR_w2 HI_w2; obtain ⟨v, hv⟩ : ∃ v : Int, w3.cell? ⟨I, a3.toNat, none⟩ = some (.int .i64 v) := by rcases (show a3 = 0 ∨ a3 = 1 ∨ a3 = 2 ∨ a3 = 3 by omega) with rfl | rfl | rfl | rfl <;> exact ⟨_, HI_w3.out.cell _⟩
    have cP0 : w3.cell? ⟨P, 0, none⟩ = some (.int .i64 g.weeks) := HP_w3.out.cell 0
    have cP1 : w3.cell? ⟨P, 1, none⟩ = some (.int .i64 g.day) := HP_w3.out.cell 1
    have cP2 : w3.cell? ⟨P, 2, none⟩ = some (.int .i64 g.start) := HP_w3.out.cell 2
    have cP3 : w3.cell? ⟨P, 3, none⟩ = some (.int .i64 g.len) := HP_w3.out.cell 3
    have fP0 := HP_w3.out.frozen 0; have fP1 := HP_w3.out.frozen 1; have fP2 := HP_w3.out.frozen 2; have fP3 := HP_w3.out.frozen 3; go_upto_region 9 with (fail)
    clear cP0 cP1 cP2 cP3 fP0 fP1 fP2 fP3; clear hv; obtain ⟨w4, hw⟩ : ∃ X, X = w3.setCell ⟨P, 2, none⟩ (.int .i64 v) := ⟨_, rfl⟩
    have HS_w4 := Lib.hid (show Sofar b w w4 from by rw [hw]; exact HS_w3.out.set lP (by omega) _ _)
    have HP_w4 := Lib.hid (show Blk P #[.int .i64 g.weeks, .int .i64 g.day, .int .i64 v, .int .i64 g.len] 105 w4 from by rw [hw]; exact HP_w3.out.set 2 _)
    have HR_w4 := Lib.hid (show Blk R #[.int .i64 0, .int .i64 0, .int .i64 0, .int .i64 0] 105 w4 from by rw [hw]; exact HR_w3.out.set_other (by omega) _ _)
    have HI_w4 := Lib.hid (show Blk I #[.int .i64 (-1), .int .i64 23, .int .i64 24, .int .i64 4611686018427387904] 3 w4 from by rw [hw]; exact HI_w3.out.set_other (by omega) _ _)
    rw [← hw]; clear hw HS_w3 HP_w3 HR_w3 HI_w3; have cP0 : w4.cell? ⟨P, 0, none⟩ = some (.int .i64 g.weeks) := HP_w4.out.cell 0
    have cP1 : w4.cell? ⟨P, 1, none⟩ = some (.int .i64 g.day) := HP_w4.out.cell 1
    have cP2 : w4.cell? ⟨P, 2, none⟩ = some (.int .i64 v) := HP_w4.out.cell 2
    have cP3 : w4.cell? ⟨P, 3, none⟩ = some (.int .i64 g.len) := HP_w4.out.cell 3
    have cR0 : w4.cell? ⟨R, 0, none⟩ = some (.int .i64 0) := HR_w4.out.cell 0
    have cR1 : w4.cell? ⟨R, 1, none⟩ = some (.int .i64 0) := HR_w4.out.cell 1
    have cR2 : w4.cell? ⟨R, 2, none⟩ = some (.int .i64 0) := HR_w4.out.cell 2
    have cR3 : w4.cell? ⟨R, 3, none⟩ = some (.int .i64 0) := HR_w4.out.cell 3
    have fR0 := HR_w4.out.frozen 0; have fR1 := HR_w4.out.frozen 1; have fR2 := HR_w4.out.frozen 2; have fR3 := HR_w4.out.frozen 3; go_wp2_with fail
    obtain ⟨Y, hY, hBk, hE⟩ := fillS HR_w4.out HS_w4.out lR (by omega) [.int .i64 g.weeks, .int .i64 g.day, .int .i64 v, .int .i64 g.len] rfl
    simp only [setAll, Nat.zero_add] at hY
    rw [← hY]; clear cR0 cR1 cR2 cR3 fR0 fR1 fR2 fR3; clear hY; have r0 := hBk.cell 0; have r1 := hBk.cell 1; have r2 := hBk.cell 2; have r3 := hBk.cell 3; simp only [List.getElem?_toArray, List.getElem?_cons_zero, List.getElem?_cons_succ] at r0 r1 r2 r3
    refine bodyPost_ret (v := .agg #[.int .i64 g.weeks, .int .i64 g.day, .int .i64 v, .int .i64 g.len]) (by simp [results, Tryz.results202, go_sem, r0, r1, r2, r3]) rfl ?_
    exact ⟨⟨g.weeks, g.day, v, g.len⟩, rfl, hE⟩
  · obtain ⟨I, hI⟩ : ∃ g, g = w1.heap.size := ⟨_, rfl⟩
    obtain ⟨w2, hw⟩ : ∃ X, X = w1.alloc (.cells #[.int .i64 0, .int .i64 24, .int .i64 25, .int .i64 (-1), .int .i64 4611686018427387904] 3) := ⟨_, rfl⟩
    have HS_w2 := Lib.hid (show Sofar b w w2 from by rw [hw]; exact HS_w1.out.alloc _)
    have HP_w2 := Lib.hid (show Blk P #[.int .i64 g.weeks, .int .i64 g.day, .int .i64 g.start, .int .i64 g.len] 105 w2 from by rw [hw]; exact HP_w1.out.alloc _)
    have HR_w2 := Lib.hid (show Blk R #[.int .i64 0, .int .i64 0, .int .i64 0, .int .i64 0] 105 w2 from by rw [hw]; exact HR_w1.out.alloc _)
    have HI_w2 := Lib.hid (show Blk I #[.int .i64 0, .int .i64 24, .int .i64 25, .int .i64 (-1), .int .i64 4611686018427387904] 3 w2 from by rw [hw, hI]; exact Blk.new w1 _ _)
    have lI : w.heap.size ≤ I := by have := HS_w1.out.but.size; omega
    have nIP : I ≠ P := by have := HP_w1.out.lt; omega
    have nIR : I ≠ R := by have := HR_w1.out.lt; omega
    go_wp2_with fail
    rw [← hw, ← hI]; clear hw hI; clear HS_w1 HP_w1 HR_w1; refine (next_any b 5 _ HS_w2.out.dice (by omega) (by omega)).mono ?_
    rintro e w3 ⟨a3, rfl, l3, u3, -, hd, ho⟩; have u3 := u3 (by omega)
    have HS_w3 := Lib.hid (HS_w2.out.only hd ho)
    have HP_w3 := Lib.hid (HP_w2.out.only ho (by omega))
    have HR_w3 := Lib.hid (HR_w2.out.only ho (by omega))
    have HI_w3 := Lib.hid (HI_w2.out.only ho (by omega))
    clear hd ho HS_w2 HP_w2 HR_w2 HI_w2; obtain ⟨v, hv⟩ : ∃ v : Int, w3.cell? ⟨I, a3.toNat, none⟩ = some (.int .i64 v) := by rcases (show a3 = 0 ∨ a3 = 1 ∨ a3 = 2 ∨ a3 = 3 ∨ a3 = 4 by omega) with rfl | rfl | rfl | rfl | rfl <;> exact ⟨_, HI_w3.out.cell _⟩
    have cP0 : w3.cell? ⟨P, 0, none⟩ = some (.int .i64 g.weeks) := HP_w3.out.cell 0
    have cP1 : w3.cell? ⟨P, 1, none⟩ = some (.int .i64 g.day) := HP_w3.out.cell 1
    have cP2 : w3.cell? ⟨P, 2, none⟩ = some (.int .i64 g.start) := HP_w3.out.cell 2
    have cP3 : w3.cell? ⟨P, 3, none⟩ = some (.int .i64 g.len) := HP_w3.out.cell 3
    have fP0 := HP_w3.out.frozen 0; have fP1 := HP_w3.out.frozen 1; have fP2 := HP_w3.out.frozen 2; have fP3 := HP_w3.out.frozen 3; go_upto_region 9 with (fail)
    clear cP0 cP1 cP2 cP3 fP0 fP1 fP2 fP3; clear hv; obtain ⟨w4, hw⟩ : ∃ X, X = w3.setCell ⟨P, 3, none⟩ (.int .i64 v) := ⟨_, rfl⟩
    have HS_w4 := Lib.hid (show Sofar b w w4 from by rw [hw]; exact HS_w3.out.set lP (by omega) _ _)
    have HP_w4 := Lib.hid (show Blk P #[.int .i64 g.weeks, .int .i64 g.day, .int .i64 g.start, .int .i64 v] 105 w4 from by rw [hw]; exact HP_w3.out.set 3 _)
    have HR_w4 := Lib.hid (show Blk R #[.int .i64 0, .int .i64 0, .int .i64 0, .int .i64 0] 105 w4 from by rw [hw]; exact HR_w3.out.set_other (by omega) _ _)
    have HI_w4 := Lib.hid (show Blk I #[.int .i64 0, .int .i64 24, .int .i64 25, .int .i64 (-1), .int .i64 4611686018427387904] 3 w4 from by rw [hw]; exact HI_w3.out.set_other (by omega) _ _)
    rw [← hw]; clear hw HS_w3 HP_w3 HR_w3 HI_w3; have cP0 : w4.cell? ⟨P, 0, none⟩ = some (.int .i64 g.weeks) := HP_w4.out.cell 0
    have cP1 : w4.cell? ⟨P, 1, none⟩ = some (.int .i64 g.day) := HP_w4.out.cell 1
    have cP2 : w4.cell? ⟨P, 2, none⟩ = some (.int .i64 g.start) := HP_w4.out.cell 2
    have cP3 : w4.cell? ⟨P, 3, none⟩ = some (.int .i64 v) := HP_w4.out.cell 3
    have cR0 : w4.cell? ⟨R, 0, none⟩ = some (.int .i64 0) := HR_w4.out.cell 0
    have cR1 : w4.cell? ⟨R, 1, none⟩ = some (.int .i64 0) := HR_w4.out.cell 1
    have cR2 : w4.cell? ⟨R, 2, none⟩ = some (.int .i64 0) := HR_w4.out.cell 2
    have cR3 : w4.cell? ⟨R, 3, none⟩ = some (.int .i64 0) := HR_w4.out.cell 3
    have fR0 := HR_w4.out.frozen 0; have fR1 := HR_w4.out.frozen 1; have fR2 := HR_w4.out.frozen 2; have fR3 := HR_w4.out.frozen 3; go_wp2_with fail
    obtain ⟨Y, hY, hBk, hE⟩ := fillS HR_w4.out HS_w4.out lR (by omega) [.int .i64 g.weeks, .int .i64 g.day, .int .i64 g.start, .int .i64 v] rfl
    simp only [setAll, Nat.zero_add] at hY
    rw [← hY]; clear cR0 cR1 cR2 cR3 fR0 fR1 fR2 fR3; clear hY; have r0 := hBk.cell 0; have r1 := hBk.cell 1; have r2 := hBk.cell 2; have r3 := hBk.cell 3; simp only [List.getElem?_toArray, List.getElem?_cons_zero, List.getElem?_cons_succ] at r0 r1 r2 r3
    refine bodyPost_ret (v := .agg #[.int .i64 g.weeks, .int .i64 g.day, .int .i64 g.start, .int .i64 v]) (by simp [results, Tryz.results202, go_sem, r0, r1, r2, r3]) rfl ?_
    exact ⟨⟨g.weeks, g.day, g.start, v⟩, rfl, hE⟩
end Go.Proofs.YtageielcdebjlaaGreatDoor
