/- timetablemore.OddSeries: its contract: a series in new memory. -/
import Derived.Test.YtageielcdebjlaaGreatDoorCondAll
namespace Go.Proofs.YtageielcdebjlaaGreatDoor
open Go.RowKit

/-- What OddSeries leaves: a series in rows from lo on. -/
def OddS (b lo : Nat) (w : World) (e : Ending) (w' : World) : Prop := ∃ (s : Tt.Ser) (v v' : Value), e = .returned (serVal s v v') ∧ RowI lo w' v s.ex ∧ RowI lo w' v' s.xt ∧ s.ex.length ≤ 1001 ∧ s.xt.length ≤ 1001 ∧ Dice b w' ∧ But b w.heap.size w w'

set_option maxHeartbeats 16000000 in
set_option maxRecDepth 100000 in
theorem oddseries79 (b lo : Nat) (s : Tt.Ser) (p1 p2 : Option Addr) (kx kt : Nat) (w : World) (hd : Dice b w) (hb : b < lo) (hlo : lo ≤ w.heap.size) (hX : RowI lo w (.slice p1 s.ex.length kx) s.ex) (hT : RowI lo w (.slice p2 s.xt.length kt) s.xt) (hxl : s.ex.length ≤ 1000) (htl : s.xt.length ≤ 1000) :
    Calls Tryz.prog 79 #[.pointer (some ⟨b, 0, none⟩), serVal s (.slice p1 s.ex.length kx) (.slice p2 s.xt.length kt)] w (OddS b lo w) := by
  obtain ⟨i0, hi, hz0, hz1, hz2⟩ := info_parts infoInt
  have hblt := hd.lt; obtain ⟨S, hS⟩ : ∃ S, S = w.heap.size := ⟨_, rfl⟩
  have HS0 := Lib.hid ((Blk.new w #[.int .i64 s.first, .int .i64 s.last, .int .i64 s.every, .int .i64 s.wd, .slice p1 s.ex.length kx, .slice p2 s.xt.length kt] 80).alloc (.cells #[.int .i64 0, .int .i64 0, .int .i64 0, .int .i64 0, .slice none 0 0, .slice none 0 0] 80))
  have HR0 := Lib.hid (Blk.new (w.alloc (.cells #[.int .i64 s.first, .int .i64 s.last, .int .i64 s.every, .int .i64 s.wd, .slice p1 s.ex.length kx, .slice p2 s.xt.length kt] 80)) #[.int .i64 0, .int .i64 0, .int .i64 0, .int .i64 0, .slice none 0 0, .slice none 0 0] 80)
  have HK0 := Lib.hid (but_alloc (but_alloc (But.refl b w.heap.size w) (Nat.le_refl _) (.cells #[.int .i64 s.first, .int .i64 s.last, .int .i64 s.every, .int .i64 s.wd, .slice p1 s.ex.length kx, .slice p2 s.xt.length kt] 80)) (by simp) (.cells #[.int .i64 0, .int .i64 0, .int .i64 0, .int .i64 0, .slice none 0 0, .slice none 0 0] 80))
  have HD0 := Lib.hid (dice_alloc (dice_alloc hd (.cells #[.int .i64 s.first, .int .i64 s.last, .int .i64 s.every, .int .i64 s.wd, .slice p1 s.ex.length kx, .slice p2 s.xt.length kt] 80)) (.cells #[.int .i64 0, .int .i64 0, .int .i64 0, .int .i64 0, .slice none 0 0, .slice none 0 0] 80))
  have HX0 := Lib.hid (World.ownsRow.alloc (World.ownsRow.alloc hX (.cells #[.int .i64 s.first, .int .i64 s.last, .int .i64 s.every, .int .i64 s.wd, .slice p1 s.ex.length kx, .slice p2 s.xt.length kt] 80)) (.cells #[.int .i64 0, .int .i64 0, .int .i64 0, .int .i64 0, .slice none 0 0, .slice none 0 0] 80))
  have HT0 := Lib.hid (World.ownsRow.alloc (World.ownsRow.alloc hT (.cells #[.int .i64 s.first, .int .i64 s.last, .int .i64 s.every, .int .i64 s.wd, .slice p1 s.ex.length kx, .slice p2 s.xt.length kt] 80)) (.cells #[.int .i64 0, .int .i64 0, .int .i64 0, .int .i64 0, .slice none 0 0, .slice none 0 0] 80))
  unfold serVal
  go_enter Tryz.func79, Tryz.ntmps79
  go_wp2_with fail
  refine (next_any b 7 _ HD0.out (by omega) (by omega)).mono ?_
  rintro e w1 ⟨v, rfl, v0, v1, -, hd1, ho1⟩; have v1 := v1 (by omega)
  have hSb : w.heap.size ≠ b := by omega
  have hRb : w.heap.size + 1 ≠ b := by omega
  have HR0 := Lib.hid (show Blk (w.heap.size + 1) #[.int .i64 0, .int .i64 0, .int .i64 0, .int .i64 0, .slice none 0 0, .slice none 0 0] 80 _ from by simpa using HR0.out)
  have HB1 := Lib.hid (HS0.out.only ho1 hSb)
  have HR1 := Lib.hid (HR0.out.only ho1 hRb)
  have HK1 := Lib.hid (but_only HK0.out ho1)
  have HX1 := Lib.hid (show RowI lo w1 _ s.ex from ownsRow_only HX0.out hb ho1)
  have HT1 := Lib.hid (show RowI lo w1 _ s.xt from ownsRow_only HT0.out hb ho1)
  have HD1 := Lib.hid hd1; clear HS0 HR0 HK0 HX0 HT0 HD0 ho1 hd1 hX hT hd; rcases (show v = 0 ∨ v = 1 ∨ v = 2 ∨ v = 3 ∨ v = 4 ∨ v = 5 ∨ v = 6 by omega) with rfl | rfl | rfl | rfl | rfl | rfl | rfl
  · go_wp2_with fail
    have hgb : w1.heap.size ≠ b := by have := HD1.out.lt; omega
    have HG1 := Lib.hid (Blk.new w1 #[.int .i64 (-1), .int .i64 0, .int .i64 36524, .int .i64 36525] 3)
    refine (next_any b 4 _ (dice_alloc HD1.out _) (by omega) (by omega)).mono ?_
    rintro e w2 ⟨a, rfl, a0, a1, -, hd2, ho2⟩; have a1 := a1 (by omega)
    have hG := HG1.out.only ho2 hgb; have B2 := (HB1.out.alloc (.cells #[.int .i64 (-1), .int .i64 0, .int .i64 36524, .int .i64 36525] 3)).only ho2 hSb
    have R2 := (HR1.out.alloc (.cells #[.int .i64 (-1), .int .i64 0, .int .i64 36524, .int .i64 36525] 3)).only ho2 hRb
    have X2 : RowI lo w2 _ s.ex := ownsRow_only (World.ownsRow.alloc HX1.out (.cells #[.int .i64 (-1), .int .i64 0, .int .i64 36524, .int .i64 36525] 3)) hb ho2
    have T2 : RowI lo w2 _ s.xt := ownsRow_only (World.ownsRow.alloc HT1.out (.cells #[.int .i64 (-1), .int .i64 0, .int .i64 36524, .int .i64 36525] 3)) hb ho2
    have K2 := but_only (but_alloc HK1.out HK1.out.size (.cells #[.int .i64 (-1), .int .i64 0, .int .i64 36524, .int .i64 36525] 3)) ho2
    obtain ⟨n, hc⟩ : ∃ n, w2.cell? ⟨w1.heap.size, a.toNat, none⟩ = some (.int .i64 n) := by
      rcases (show a = 0 ∨ a = 1 ∨ a = 2 ∨ a = 3 by omega) with rfl | rfl | rfl | rfl
      · exact ⟨_, hG.cell 0⟩
      · exact ⟨_, hG.cell 1⟩
      · exact ⟨_, hG.cell 2⟩
      · exact ⟨_, hG.cell 3⟩
    have c0 : w2.cell? ⟨w.heap.size, 0, none⟩ = some (.int .i64 s.first) := B2.cell 0
    have z0 := B2.frozen 0; have HB := Lib.hid (show Blk w.heap.size #[.int .i64 n, .int .i64 s.last, .int .i64 s.every, .int .i64 s.wd, .slice p1 s.ex.length kx, .slice p2 s.xt.length kt] 80 _ from B2.set 0 (.int .i64 n))
    have HR := Lib.hid (R2.set_other (show w.heap.size + 1 ≠ w.heap.size by omega) 0 (.int .i64 n))
    have HX := Lib.hid (show RowI lo _ _ s.ex from row_set X2 B2 (by decide) 0 (.int .i64 n))
    have HT := Lib.hid (show RowI lo _ _ s.xt from row_set T2 B2 (by decide) 0 (.int .i64 n))
    have HD := Lib.hid (dice_set (i := 0) (u := .int .i64 n) hd2 hblt)
    have HK := Lib.hid (but_set (i := 0) (u := .int .i64 n) K2 (Nat.le_refl _))
    clear B2 R2 X2 T2 K2 hd2 ho2 hG HG1 HB1 HR1 HX1 HT1 HK1 HD1; go_upto_region 15 with (fail)
    clear hc c0 z0; obtain ⟨W, hW⟩ : ∃ W, W = w2.setCell ⟨w.heap.size, 0, none⟩ (.int .i64 n) := ⟨_, rfl⟩
    rw [← hW] at HB HR HX HT HD HK ⊢
    clear hW; obtain ⟨c0, c1, c2, c3, c4, c5⟩ := And.intro (HB.out.cell 0) ( And.intro (HB.out.cell 1) ( And.intro (HB.out.cell 2) ( And.intro (HB.out.cell 3) ( And.intro (HB.out.cell 4) (HB.out.cell 5)))))
    simp only [List.getElem?_toArray, List.getElem?_cons_zero, List.getElem?_cons_succ] at c0 c1 c2 c3 c4 c5
    obtain ⟨r0, r1, r2, r3, r4, r5⟩ := And.intro (HR.out.cell 0) ( And.intro (HR.out.cell 1) ( And.intro (HR.out.cell 2) ( And.intro (HR.out.cell 3) ( And.intro (HR.out.cell 4) (HR.out.cell 5)))))
    simp only [List.getElem?_toArray, List.getElem?_cons_zero, List.getElem?_cons_succ] at r0 r1 r2 r3 r4 r5
    obtain ⟨z0, z1, z2, z3, z4, z5⟩ := And.intro (HR.out.frozen 0) ( And.intro (HR.out.frozen 1) ( And.intro (HR.out.frozen 2) ( And.intro (HR.out.frozen 3) ( And.intro (HR.out.frozen 4) (HR.out.frozen 5)))))
    go_wp2_with fail
    obtain ⟨W9, hW, B9, fX, fD, fK⟩ := fill6 HR.out (by decide) (.int .i64 n) (.int .i64 s.last) (.int .i64 s.every) (.int .i64 s.wd) (.slice p1 s.ex.length kx) (.slice p2 s.xt.length kt)
    rw [← hW]; have X9 := fX _ _ _ HX.out
    have T9 := fX _ _ _ HT.out
    have D9 := fD b (by omega) HD.out
    have K9 := fK b w.heap.size w (by omega) HK.out
    clear hW fX fD fK c0 r0 z0 c1 r1 z1 c2 r2 z2 c3 r3 z3 c4 r4 z4 c5 r5 z5; have r0 : W9.cell? ⟨w.heap.size + 1, 0, none⟩ = some (.int .i64 n) := B9.cell 0
    have r1 : W9.cell? ⟨w.heap.size + 1, 1, none⟩ = some (.int .i64 s.last) := B9.cell 1
    have r2 : W9.cell? ⟨w.heap.size + 1, 2, none⟩ = some (.int .i64 s.every) := B9.cell 2
    have r3 : W9.cell? ⟨w.heap.size + 1, 3, none⟩ = some (.int .i64 s.wd) := B9.cell 3
    have r4 : W9.cell? ⟨w.heap.size + 1, 4, none⟩ = some (.slice p1 s.ex.length kx) := B9.cell 4
    have r5 : W9.cell? ⟨w.heap.size + 1, 5, none⟩ = some (.slice p2 s.xt.length kt) := B9.cell 5
    refine bodyPost_ret (v := serVal ⟨n, s.last, s.every, s.wd, s.ex, s.xt⟩ (.slice p1 s.ex.length kx) (.slice p2 s.xt.length kt)) (by simp [results, Tryz.results79, go_sem, r0, r1, r2, r3, r4, r5, serVal]) rfl ?_
    exact ⟨⟨n, s.last, s.every, s.wd, s.ex, s.xt⟩, _, _, rfl, X9, T9, by first | omega | (simp; omega), by first | omega | (simp; omega), D9, K9⟩
  · go_wp2_with fail
    have hbB : b < w1.heap.size := HD1.out.lt
    have HD0 := HD1; clear HD1; refine wp_region_tail 7 (by kernel_rfl) (fun listed a x => ∃ (l0 l1 l2 l3 l4 l5 l6 : Bool) (t23 t24 t25 t26 t27 t28 t29 : Value), listed = #[l0, l1, l2, l3, l4, l5, l6, false, false, false] ∧ a = ⟨(.pointer (some ⟨b, 0, none⟩) :: .agg #[.int .i64 s.first, .int .i64 s.last, .int .i64 s.every, .int .i64 s.wd, .slice p1 s.ex.length kx, .slice p2 s.xt.length kt] :: undef :: .pointer (some ⟨w.heap.size, 0, none⟩) :: .pointer (some ⟨w.heap.size + 1, 0, none⟩) :: .pointer (some ⟨b, 0, none⟩) :: .int .i64 1 :: undef :: undef :: undef :: undef :: undef :: undef :: .bool false :: .bool false :: undef :: undef :: undef :: undef :: undef :: undef :: .bool true :: .bool true :: t23 :: t24 :: t25 :: t26 :: t27 :: t28 :: t29 :: undef :: undef :: undef :: undef :: undef :: undef :: undef :: undef :: undef :: undef :: undef :: undef :: undef :: undef :: undef :: undef :: undef :: undef :: undef :: undef :: undef :: undef :: undef :: undef :: undef :: undef :: undef :: undef :: undef :: undef :: undef :: undef :: undef :: undef :: undef :: undef :: undef :: undef :: undef :: undef :: undef :: undef :: undef :: undef :: undef :: []).toArray, []⟩ ∧ Hid (l0 = true → t23 = .pointer (some ⟨w.heap.size, 0, none⟩)) ∧ Hid (l1 = true → t24 = .int .i64 s.first) ∧ Hid (l2 = true → l5 = false → ∃ (g : Nat), t25 = .slice (some ⟨g, 0, none⟩) 4 4 ∧ w1.heap.size ≤ g ∧ Blk g #[.int .i64 (-1), .int .i64 0, .int .i64 140, .int .i64 141] 3 x) ∧ Hid (l3 = true → t26 = .pointer (some ⟨b, 0, none⟩)) ∧ Hid (l4 = true → ∃ (n : Int), t27 = .int .i64 n ∧ 0 ≤ n ∧ n ≤ 3) ∧ Hid (l5 = true → l6 = false → ∃ (g : Nat) (k : Nat), t28 = .pointer (some ⟨g, k, none⟩) ∧ k < 4 ∧ w1.heap.size ≤ g ∧ Blk g #[.int .i64 (-1), .int .i64 0, .int .i64 140, .int .i64 141] 3 x) ∧ Hid (l6 = true → ∃ (n : Int), t29 = .int .i64 n ∧ (-1) ≤ n ∧ n ≤ 141) ∧ Hid (Sofar b w1 x)) (by decide) (by kernel_rfl) (by kernel_rfl) ?_ ?_ ?_ ?_
    · exact ⟨false, false, false, false, false, false, false, _, _, _, _, _, _, _, rfl, rfl, Lib.hid (fun h => by cases h), Lib.hid (fun h => by cases h), Lib.hid (fun h => by cases h), Lib.hid (fun h => by cases h), Lib.hid (fun h => by cases h), Lib.hid (fun h => by cases h), Lib.hid (fun h => by cases h), Lib.hid (Sofar.start HD0.out)⟩
    · intro listed a x hj; obtain ⟨l0, hj⟩ := hj
      obtain ⟨l1, hj⟩ := hj; obtain ⟨l2, hj⟩ := hj; obtain ⟨l3, hj⟩ := hj; obtain ⟨l4, hj⟩ := hj; obtain ⟨l5, hj⟩ := hj; obtain ⟨l6, hj⟩ := hj; obtain ⟨t23, hj⟩ := hj; obtain ⟨t24, hj⟩ := hj; obtain ⟨t25, hj⟩ := hj; obtain ⟨t26, hj⟩ := hj; obtain ⟨t27, hj⟩ := hj; obtain ⟨t28, hj⟩ := hj; obtain ⟨t29, hj⟩ := hj; obtain ⟨h1, -⟩ := hj; subst h1; exact ⟨rfl, fun k h1 h2 => by (have h2 : k < 10 := h2); rcases (show k = 7 ∨ k = 8 ∨ k = 9 by omega) with rfl | rfl | rfl <;> rfl⟩
    · intro listed a x i hj hlt hu haf; obtain ⟨l0, hj⟩ := hj
      obtain ⟨l1, hj⟩ := hj; obtain ⟨l2, hj⟩ := hj; obtain ⟨l3, hj⟩ := hj; obtain ⟨l4, hj⟩ := hj; obtain ⟨l5, hj⟩ := hj; obtain ⟨l6, hj⟩ := hj; obtain ⟨t23, hj⟩ := hj; obtain ⟨t24, hj⟩ := hj; obtain ⟨t25, hj⟩ := hj; obtain ⟨t26, hj⟩ := hj; obtain ⟨t27, hj⟩ := hj; obtain ⟨t28, hj⟩ := hj; obtain ⟨t29, hj⟩ := hj; obtain ⟨hl_, hj⟩ := hj; obtain ⟨ha_, hj⟩ := hj; obtain ⟨H0, hj⟩ := hj; obtain ⟨H1, hj⟩ := hj; obtain ⟨H2, hj⟩ := hj; obtain ⟨H3, hj⟩ := hj; obtain ⟨H4, hj⟩ := hj; obtain ⟨H5, hj⟩ := hj; obtain ⟨H6, hj⟩ := hj; have HS := hj; clear hj; subst hl_; subst ha_; rcases (show ∀ i : Nat, i < 7 → (i = 0 ∨ i = 1 ∨ i = 2 ∨ i = 3 ∨ i = 4 ∨ i = 5 ∨ i = 6) by decide) i hlt with rfl | rfl | rfl | rfl | rfl | rfl | rfl
      · have haf := haf _ rfl; clear haf
        have hu : l0 = false := hu
        refine wpOp_of_list_any rfl fun QQ hQ => ?_
        have hQQ := Lib.hid hQ; clear hQ; simp only [List.getElem_toArray, List.getElem_cons_zero]
        go_wp2_with fail
        exact hQQ.out _ _ ⟨true, l1, l2, l3, l4, l5, l6, _, _, _, _, _, _, _, rfl, rfl, Lib.hid (fun _ => rfl), H1, H2, H3, H4, H5, H6, HS⟩
      · have haf := haf _ rfl; have q0 : l0 = true := haf ⟨0, Go.Ground.data⟩ (by simp) rfl
        clear haf; have hu : l1 = false := hu
        have e0 := (H0.out q0)
        subst e0; clear H0; have hc : x.cell? ⟨w.heap.size, 0, none⟩ = some (.int .i64 s.first) := (HS.out.blk HB1.out hSb).cell 0
        refine wpOp_of_list_any rfl fun QQ hQ => ?_
        have hQQ := Lib.hid hQ; clear hQ; simp only [List.getElem_toArray, List.getElem_cons_zero, List.getElem_cons_succ]
        go_wp2_with fail
        exact hQQ.out _ _ ⟨l0, true, l2, l3, l4, l5, l6, _, _, _, _, _, _, _, rfl, rfl, Lib.hid (fun _ => rfl), Lib.hid (fun _ => rfl), H2, H3, H4, H5, H6, HS⟩
      · have haf := haf _ rfl; clear haf
        have hu : l2 = false := hu
        refine wpOp_of_list_any rfl fun QQ hQ => ?_
        have hQQ := Lib.hid hQ; clear hQ; simp only [List.getElem_toArray, List.getElem_cons_zero, List.getElem_cons_succ]
        go_wp2_with fail
        exact hQQ.out _ _ ⟨l0, l1, true, l3, l4, l5, l6, _, _, _, _, _, _, _, rfl, rfl, H0, H1, Lib.hid (fun _ _ => ⟨_, rfl, HS.out.but.size, Blk.new x _ _⟩), H3, H4, Lib.hid (fun h h2 => (by obtain ⟨g, k, e, c0, c1, c2⟩ := H5.out h h2; exact ⟨g, k, e, c0, c1, ((Kept.alloc _ x _) _ _ _ c1 c2)⟩)), H6, Lib.hid (HS.out.alloc _)⟩
      · have haf := haf _ rfl; clear haf
        have hu : l3 = false := hu
        refine wpOp_of_list_any rfl fun QQ hQ => ?_
        have hQQ := Lib.hid hQ; clear hQ; simp only [List.getElem_toArray, List.getElem_cons_zero, List.getElem_cons_succ]
        go_wp2_with fail
        exact hQQ.out _ _ ⟨l0, l1, l2, true, l4, l5, l6, _, _, _, _, _, _, _, rfl, rfl, H0, H1, H2, Lib.hid (fun _ => rfl), H4, H5, H6, HS⟩
      · have haf := haf _ rfl; have q3 : l3 = true := haf ⟨3, Go.Ground.data⟩ (by simp) rfl
        clear haf; have hu : l4 = false := hu
        have e3 := (H3.out q3)
        subst e3; clear H3; refine wpOp_of_list_any rfl fun QQ hQ => ?_
        have hQQ := Lib.hid hQ; clear hQ; simp only [List.getElem_toArray, List.getElem_cons_zero, List.getElem_cons_succ]
        go_wp2_with fail
        refine (next_any b 4 _ HS.out.dice (by omega) (by omega)).mono ?_
        rintro e x1 ⟨v, rfl, h0, h1, -, hd1, ho1⟩; have h1 := h1 (by omega)
        have hk := Kept.only ho1 hbB; have HS1 := Lib.hid (HS.out.only hd1 ho1)
        clear ho1 hd1; go_wp2_with fail
        exact hQQ.out _ _ ⟨l0, l1, l2, l3, true, l5, l6, _, _, _, _, _, _, _, rfl, rfl, H0, H1, Lib.hid (fun h h2 => (by obtain ⟨g, e, c0, c1⟩ := H2.out h h2; exact ⟨g, e, c0, (hk _ _ _ c0 c1)⟩)), Lib.hid (fun _ => rfl), Lib.hid (fun _ => ⟨_, rfl, by omega, by omega⟩), Lib.hid (fun h h2 => (by obtain ⟨g, k, e, c0, c1, c2⟩ := H5.out h h2; exact ⟨g, k, e, c0, c1, (hk _ _ _ c1 c2)⟩)), H6, HS1⟩
      · have haf := haf _ rfl; have q2 : l2 = true := haf ⟨2, Go.Ground.data⟩ (by simp) rfl
        have q4 : l4 = true := haf ⟨4, Go.Ground.data⟩ (by simp) rfl
        clear haf; have hu : l5 = false := hu
        obtain ⟨g2, e2, c2_0, c2_1⟩ := (H2.out q2 hu)
        subst e2; clear H2; obtain ⟨n4, e4, c4_0, c4_1⟩ := (H4.out q4)
        subst e4; clear H4; refine wpOp_of_list_any rfl fun QQ hQ => ?_
        have hQQ := Lib.hid hQ; clear hQ; simp only [List.getElem_toArray, List.getElem_cons_zero, List.getElem_cons_succ]
        go_wp2_with fail
        exact hQQ.out _ _ ⟨l0, l1, l2, l3, l4, true, l6, _, _, _, _, _, _, _, rfl, rfl, H0, H1, Lib.hid (fun _ h => by cases h), H3, Lib.hid (fun _ => ⟨n4, rfl, c4_0, c4_1⟩), Lib.hid (fun _ _ => ⟨_, _, rfl, by omega, by omega, by assumption⟩), H6, HS⟩
      · have haf := haf _ rfl; have q5 : l5 = true := haf ⟨5, Go.Ground.data⟩ (by simp) rfl
        clear haf; have hu : l6 = false := hu
        obtain ⟨g5, k5, e5, c5_0, c5_1, c5_2⟩ := (H5.out q5 hu)
        subst e5; clear H5; obtain ⟨v, hv, hP⟩ : ∃ v, x.cell? ⟨g5, k5, none⟩ = some v ∧ (∃ (n : Int), v = .int .i64 n ∧ (-1) ≤ n ∧ n ≤ 141) := by
          rcases (show k5 = 0 ∨ k5 = 1 ∨ k5 = 2 ∨ k5 = 3 by omega) with rfl | rfl | rfl | rfl
          · exact ⟨_, c5_2.cell 0, _, rfl, by first | omega | decide, by first | omega | decide⟩
          · exact ⟨_, c5_2.cell 1, _, rfl, by first | omega | decide, by first | omega | decide⟩
          · exact ⟨_, c5_2.cell 2, _, rfl, by first | omega | decide, by first | omega | decide⟩
          · exact ⟨_, c5_2.cell 3, _, rfl, by first | omega | decide, by first | omega | decide⟩
        obtain ⟨y0, rfl, d0, d1⟩ := hP; refine wpOp_of_list_any rfl fun QQ hQ => ?_
        have hQQ := Lib.hid hQ; clear hQ; simp only [List.getElem_toArray, List.getElem_cons_zero, List.getElem_cons_succ]
        go_wp2_with fail
        exact hQQ.out _ _ ⟨l0, l1, l2, l3, l4, l5, true, _, _, _, _, _, _, _, rfl, rfl, H0, H1, H2, H3, H4, Lib.hid (fun _ h => by cases h), Lib.hid (fun _ => ⟨_, rfl, by omega, by omega⟩), HS⟩
    · intro listed a x hj hall; obtain ⟨l0, hj⟩ := hj
      obtain ⟨l1, hj⟩ := hj; obtain ⟨l2, hj⟩ := hj; obtain ⟨l3, hj⟩ := hj; obtain ⟨l4, hj⟩ := hj; obtain ⟨l5, hj⟩ := hj; obtain ⟨l6, hj⟩ := hj; obtain ⟨t23, hj⟩ := hj; obtain ⟨t24, hj⟩ := hj; obtain ⟨t25, hj⟩ := hj; obtain ⟨t26, hj⟩ := hj; obtain ⟨t27, hj⟩ := hj; obtain ⟨t28, hj⟩ := hj; obtain ⟨t29, hj⟩ := hj; obtain ⟨hl_, hj⟩ := hj; obtain ⟨ha_, hj⟩ := hj; obtain ⟨H0, hj⟩ := hj; obtain ⟨H1, hj⟩ := hj; obtain ⟨H2, hj⟩ := hj; obtain ⟨H3, hj⟩ := hj; obtain ⟨H4, hj⟩ := hj; obtain ⟨H5, hj⟩ := hj; obtain ⟨H6, hj⟩ := hj; have HS := hj; clear hj; subst hl_; subst ha_; have q1 : l1 = true := hall 1 (by omega)
      have q6 : l6 = true := hall 6 (by omega)
      clear hall; have e1 := (H1.out q1)
      subst e1; obtain ⟨n6, e6, c6_0, c6_1⟩ := (H6.out q6)
      subst e6; have B2 := HS.out.blk HB1.out hSb
      have R2 := HS.out.blk HR1.out hRb
      have X2 : RowI lo x _ s.ex := row_but HX1.out hb HS.out.but
      have T2 : RowI lo x _ s.xt := row_but HT1.out hb HS.out.but
      have K2 := but_then HK1.out HS.out.but HK1.out.size
      have f0 : x.cell? ⟨w.heap.size, 1, none⟩ = some (.int .i64 s.last) := B2.cell 1
      have z0 := B2.frozen 1; have HB2 := Lib.hid B2; have HR2 := Lib.hid R2; have HX2 := Lib.hid X2; have HT2 := Lib.hid T2; have HK2 := Lib.hid K2; clear B2 R2 X2 T2 K2; refine tail_any (fun a x => ∃ (t23 t24 t25 t26 t27 t28 t29 t30 t31 : Value), a = ⟨(.pointer (some ⟨b, 0, none⟩) :: .agg #[.int .i64 s.first, .int .i64 s.last, .int .i64 s.every, .int .i64 s.wd, .slice p1 s.ex.length kx, .slice p2 s.xt.length kt] :: undef :: .pointer (some ⟨w.heap.size, 0, none⟩) :: .pointer (some ⟨w.heap.size + 1, 0, none⟩) :: .pointer (some ⟨b, 0, none⟩) :: .int .i64 1 :: undef :: undef :: undef :: undef :: undef :: undef :: .bool false :: .bool false :: undef :: undef :: undef :: undef :: undef :: undef :: .bool true :: .bool true :: t23 :: t24 :: t25 :: t26 :: t27 :: t28 :: t29 :: t30 :: t31 :: undef :: undef :: undef :: undef :: undef :: undef :: undef :: undef :: undef :: undef :: undef :: undef :: undef :: undef :: undef :: undef :: undef :: undef :: undef :: undef :: undef :: undef :: undef :: undef :: undef :: undef :: undef :: undef :: undef :: undef :: undef :: undef :: undef :: undef :: undef :: undef :: undef :: undef :: undef :: undef :: undef :: undef :: undef :: []).toArray, []⟩ ∧ ∃ n : Int, Blk w.heap.size #[.int .i64 s.first, .int .i64 n, .int .i64 s.every, .int .i64 s.wd, .slice p1 s.ex.length kx, .slice p2 s.xt.length kt] 80 x ∧ Blk (w.heap.size + 1) #[.int .i64 0, .int .i64 0, .int .i64 0, .int .i64 0, .slice none 0 0, .slice none 0 0] 80 x ∧ RowI lo x (.slice p1 s.ex.length kx) s.ex ∧ RowI lo x (.slice p2 s.xt.length kt) s.xt ∧ Dice b x ∧ But b w.heap.size w x) ?_ fun QQ hQ => ?_
      · intro a x hpost; obtain ⟨t23, hpost⟩ := hpost
        obtain ⟨t24, hpost⟩ := hpost; obtain ⟨t25, hpost⟩ := hpost; obtain ⟨t26, hpost⟩ := hpost; obtain ⟨t27, hpost⟩ := hpost; obtain ⟨t28, hpost⟩ := hpost; obtain ⟨t29, hpost⟩ := hpost; obtain ⟨t30, hpost⟩ := hpost; obtain ⟨t31, hpost⟩ := hpost; obtain ⟨ha_, hpost⟩ := hpost; subst ha_; obtain ⟨n, p1_, p2_, p3_, p4_, p5_, p6_⟩ := hpost; have HB := Lib.hid p1_; have HR := Lib.hid p2_; have HX := Lib.hid p3_; have HT := Lib.hid p4_; have HD := Lib.hid p5_; have HK := Lib.hid p6_; clear p1_ p2_ p3_ p4_ p5_ p6_ HB1 HR1 HX1 HT1 HK1 HD0; go_upto_region 15 with (fail)
        obtain ⟨c0, c1, c2, c3, c4, c5⟩ := And.intro (HB.out.cell 0) ( And.intro (HB.out.cell 1) ( And.intro (HB.out.cell 2) ( And.intro (HB.out.cell 3) ( And.intro (HB.out.cell 4) (HB.out.cell 5)))))
        simp only [List.getElem?_toArray, List.getElem?_cons_zero, List.getElem?_cons_succ] at c0 c1 c2 c3 c4 c5
        obtain ⟨r0, r1, r2, r3, r4, r5⟩ := And.intro (HR.out.cell 0) ( And.intro (HR.out.cell 1) ( And.intro (HR.out.cell 2) ( And.intro (HR.out.cell 3) ( And.intro (HR.out.cell 4) (HR.out.cell 5)))))
        simp only [List.getElem?_toArray, List.getElem?_cons_zero, List.getElem?_cons_succ] at r0 r1 r2 r3 r4 r5
        obtain ⟨z0, z1, z2, z3, z4, z5⟩ := And.intro (HR.out.frozen 0) ( And.intro (HR.out.frozen 1) ( And.intro (HR.out.frozen 2) ( And.intro (HR.out.frozen 3) ( And.intro (HR.out.frozen 4) (HR.out.frozen 5)))))
        go_wp2_with fail
        obtain ⟨W9, hW, B9, fX, fD, fK⟩ := fill6 HR.out (by decide) (.int .i64 s.first) (.int .i64 n) (.int .i64 s.every) (.int .i64 s.wd) (.slice p1 s.ex.length kx) (.slice p2 s.xt.length kt)
        rw [← hW]; have X9 := fX _ _ _ HX.out
        have T9 := fX _ _ _ HT.out
        have D9 := fD b (by omega) HD.out
        have K9 := fK b w.heap.size w (by omega) HK.out
        clear hW fX fD fK c0 r0 z0 c1 r1 z1 c2 r2 z2 c3 r3 z3 c4 r4 z4 c5 r5 z5; have r0 : W9.cell? ⟨w.heap.size + 1, 0, none⟩ = some (.int .i64 s.first) := B9.cell 0
        have r1 : W9.cell? ⟨w.heap.size + 1, 1, none⟩ = some (.int .i64 n) := B9.cell 1
        have r2 : W9.cell? ⟨w.heap.size + 1, 2, none⟩ = some (.int .i64 s.every) := B9.cell 2
        have r3 : W9.cell? ⟨w.heap.size + 1, 3, none⟩ = some (.int .i64 s.wd) := B9.cell 3
        have r4 : W9.cell? ⟨w.heap.size + 1, 4, none⟩ = some (.slice p1 s.ex.length kx) := B9.cell 4
        have r5 : W9.cell? ⟨w.heap.size + 1, 5, none⟩ = some (.slice p2 s.xt.length kt) := B9.cell 5
        refine bodyPost_ret (v := serVal ⟨s.first, n, s.every, s.wd, s.ex, s.xt⟩ (.slice p1 s.ex.length kx) (.slice p2 s.xt.length kt)) (by simp [results, Tryz.results79, go_sem, r0, r1, r2, r3, r4, r5, serVal]) rfl ?_
        exact ⟨⟨s.first, n, s.every, s.wd, s.ex, s.xt⟩, _, _, rfl, X9, T9, by first | omega | (simp; omega), by first | omega | (simp; omega), D9, K9⟩
      have hQQ := Lib.hid hQ; clear hQ; simp only [List.drop_succ_cons, List.drop_zero]
      go_wp2_with fail
      exact hQQ.out _ _ ⟨_, _, _, _, _, _, _, _, _, rfl, _, HB2.out.set 1 _, HR2.out.set_other (by omega) 1 _, row_set HX2.out HB2.out (by decide) 1 _, row_set HT2.out HB2.out (by decide) 1 _, dice_set HS.out.dice hblt, but_set HK2.out (Nat.le_refl _)⟩
  · go_wp2_with fail
    have hgb : w1.heap.size ≠ b := by have := HD1.out.lt; omega
    have HG1 := Lib.hid (Blk.new w1 #[.int .i64 0, .int .i64 5, .int .i64 (-1)] 3)
    refine (next_any b 3 _ (dice_alloc HD1.out _) (by omega) (by omega)).mono ?_
    rintro e w2 ⟨a, rfl, a0, a1, -, hd2, ho2⟩; have a1 := a1 (by omega)
    have hG := HG1.out.only ho2 hgb; have B2 := (HB1.out.alloc (.cells #[.int .i64 0, .int .i64 5, .int .i64 (-1)] 3)).only ho2 hSb
    have R2 := (HR1.out.alloc (.cells #[.int .i64 0, .int .i64 5, .int .i64 (-1)] 3)).only ho2 hRb
    have X2 : RowI lo w2 _ s.ex := ownsRow_only (World.ownsRow.alloc HX1.out (.cells #[.int .i64 0, .int .i64 5, .int .i64 (-1)] 3)) hb ho2
    have T2 : RowI lo w2 _ s.xt := ownsRow_only (World.ownsRow.alloc HT1.out (.cells #[.int .i64 0, .int .i64 5, .int .i64 (-1)] 3)) hb ho2
    have K2 := but_only (but_alloc HK1.out HK1.out.size (.cells #[.int .i64 0, .int .i64 5, .int .i64 (-1)] 3)) ho2
    obtain ⟨n, hc⟩ : ∃ n, w2.cell? ⟨w1.heap.size, a.toNat, none⟩ = some (.int .i64 n) := by
      rcases (show a = 0 ∨ a = 1 ∨ a = 2 by omega) with rfl | rfl | rfl
      · exact ⟨_, hG.cell 0⟩
      · exact ⟨_, hG.cell 1⟩
      · exact ⟨_, hG.cell 2⟩
    have c0 : w2.cell? ⟨w.heap.size, 2, none⟩ = some (.int .i64 s.every) := B2.cell 2
    have z0 := B2.frozen 2; have HB := Lib.hid (show Blk w.heap.size #[.int .i64 s.first, .int .i64 s.last, .int .i64 n, .int .i64 s.wd, .slice p1 s.ex.length kx, .slice p2 s.xt.length kt] 80 _ from B2.set 2 (.int .i64 n))
    have HR := Lib.hid (R2.set_other (show w.heap.size + 1 ≠ w.heap.size by omega) 2 (.int .i64 n))
    have HX := Lib.hid (show RowI lo _ _ s.ex from row_set X2 B2 (by decide) 2 (.int .i64 n))
    have HT := Lib.hid (show RowI lo _ _ s.xt from row_set T2 B2 (by decide) 2 (.int .i64 n))
    have HD := Lib.hid (dice_set (i := 2) (u := .int .i64 n) hd2 hblt)
    have HK := Lib.hid (but_set (i := 2) (u := .int .i64 n) K2 (Nat.le_refl _))
    clear B2 R2 X2 T2 K2 hd2 ho2 hG HG1 HB1 HR1 HX1 HT1 HK1 HD1; go_upto_region 15 with (fail)
    clear hc c0 z0; obtain ⟨W, hW⟩ : ∃ W, W = w2.setCell ⟨w.heap.size, 2, none⟩ (.int .i64 n) := ⟨_, rfl⟩
    rw [← hW] at HB HR HX HT HD HK ⊢
    clear hW; obtain ⟨c0, c1, c2, c3, c4, c5⟩ := And.intro (HB.out.cell 0) ( And.intro (HB.out.cell 1) ( And.intro (HB.out.cell 2) ( And.intro (HB.out.cell 3) ( And.intro (HB.out.cell 4) (HB.out.cell 5)))))
    simp only [List.getElem?_toArray, List.getElem?_cons_zero, List.getElem?_cons_succ] at c0 c1 c2 c3 c4 c5
    obtain ⟨r0, r1, r2, r3, r4, r5⟩ := And.intro (HR.out.cell 0) ( And.intro (HR.out.cell 1) ( And.intro (HR.out.cell 2) ( And.intro (HR.out.cell 3) ( And.intro (HR.out.cell 4) (HR.out.cell 5)))))
    simp only [List.getElem?_toArray, List.getElem?_cons_zero, List.getElem?_cons_succ] at r0 r1 r2 r3 r4 r5
    obtain ⟨z0, z1, z2, z3, z4, z5⟩ := And.intro (HR.out.frozen 0) ( And.intro (HR.out.frozen 1) ( And.intro (HR.out.frozen 2) ( And.intro (HR.out.frozen 3) ( And.intro (HR.out.frozen 4) (HR.out.frozen 5)))))
    go_wp2_with fail
    obtain ⟨W9, hW, B9, fX, fD, fK⟩ := fill6 HR.out (by decide) (.int .i64 s.first) (.int .i64 s.last) (.int .i64 n) (.int .i64 s.wd) (.slice p1 s.ex.length kx) (.slice p2 s.xt.length kt)
    rw [← hW]; have X9 := fX _ _ _ HX.out
    have T9 := fX _ _ _ HT.out
    have D9 := fD b (by omega) HD.out
    have K9 := fK b w.heap.size w (by omega) HK.out
    clear hW fX fD fK c0 r0 z0 c1 r1 z1 c2 r2 z2 c3 r3 z3 c4 r4 z4 c5 r5 z5; have r0 : W9.cell? ⟨w.heap.size + 1, 0, none⟩ = some (.int .i64 s.first) := B9.cell 0
    have r1 : W9.cell? ⟨w.heap.size + 1, 1, none⟩ = some (.int .i64 s.last) := B9.cell 1
    have r2 : W9.cell? ⟨w.heap.size + 1, 2, none⟩ = some (.int .i64 n) := B9.cell 2
    have r3 : W9.cell? ⟨w.heap.size + 1, 3, none⟩ = some (.int .i64 s.wd) := B9.cell 3
    have r4 : W9.cell? ⟨w.heap.size + 1, 4, none⟩ = some (.slice p1 s.ex.length kx) := B9.cell 4
    have r5 : W9.cell? ⟨w.heap.size + 1, 5, none⟩ = some (.slice p2 s.xt.length kt) := B9.cell 5
    refine bodyPost_ret (v := serVal ⟨s.first, s.last, n, s.wd, s.ex, s.xt⟩ (.slice p1 s.ex.length kx) (.slice p2 s.xt.length kt)) (by simp [results, Tryz.results79, go_sem, r0, r1, r2, r3, r4, r5, serVal]) rfl ?_
    exact ⟨⟨s.first, s.last, n, s.wd, s.ex, s.xt⟩, _, _, rfl, X9, T9, by first | omega | (simp; omega), by first | omega | (simp; omega), D9, K9⟩
  · go_wp2_with fail
    have hgb : w1.heap.size ≠ b := by have := HD1.out.lt; omega
    have HG1 := Lib.hid (Blk.new w1 #[.int .i64 (-1), .int .i64 0, .int .i64 127, .int .i64 128] 3)
    refine (next_any b 4 _ (dice_alloc HD1.out _) (by omega) (by omega)).mono ?_
    rintro e w2 ⟨a, rfl, a0, a1, -, hd2, ho2⟩; have a1 := a1 (by omega)
    have hG := HG1.out.only ho2 hgb; have B2 := (HB1.out.alloc (.cells #[.int .i64 (-1), .int .i64 0, .int .i64 127, .int .i64 128] 3)).only ho2 hSb
    have R2 := (HR1.out.alloc (.cells #[.int .i64 (-1), .int .i64 0, .int .i64 127, .int .i64 128] 3)).only ho2 hRb
    have X2 : RowI lo w2 _ s.ex := ownsRow_only (World.ownsRow.alloc HX1.out (.cells #[.int .i64 (-1), .int .i64 0, .int .i64 127, .int .i64 128] 3)) hb ho2
    have T2 : RowI lo w2 _ s.xt := ownsRow_only (World.ownsRow.alloc HT1.out (.cells #[.int .i64 (-1), .int .i64 0, .int .i64 127, .int .i64 128] 3)) hb ho2
    have K2 := but_only (but_alloc HK1.out HK1.out.size (.cells #[.int .i64 (-1), .int .i64 0, .int .i64 127, .int .i64 128] 3)) ho2
    obtain ⟨n, hc⟩ : ∃ n, w2.cell? ⟨w1.heap.size, a.toNat, none⟩ = some (.int .i64 n) := by
      rcases (show a = 0 ∨ a = 1 ∨ a = 2 ∨ a = 3 by omega) with rfl | rfl | rfl | rfl
      · exact ⟨_, hG.cell 0⟩
      · exact ⟨_, hG.cell 1⟩
      · exact ⟨_, hG.cell 2⟩
      · exact ⟨_, hG.cell 3⟩
    have c0 : w2.cell? ⟨w.heap.size, 3, none⟩ = some (.int .i64 s.wd) := B2.cell 3
    have z0 := B2.frozen 3; have HB := Lib.hid (show Blk w.heap.size #[.int .i64 s.first, .int .i64 s.last, .int .i64 s.every, .int .i64 n, .slice p1 s.ex.length kx, .slice p2 s.xt.length kt] 80 _ from B2.set 3 (.int .i64 n))
    have HR := Lib.hid (R2.set_other (show w.heap.size + 1 ≠ w.heap.size by omega) 3 (.int .i64 n))
    have HX := Lib.hid (show RowI lo _ _ s.ex from row_set X2 B2 (by decide) 3 (.int .i64 n))
    have HT := Lib.hid (show RowI lo _ _ s.xt from row_set T2 B2 (by decide) 3 (.int .i64 n))
    have HD := Lib.hid (dice_set (i := 3) (u := .int .i64 n) hd2 hblt)
    have HK := Lib.hid (but_set (i := 3) (u := .int .i64 n) K2 (Nat.le_refl _))
    clear B2 R2 X2 T2 K2 hd2 ho2 hG HG1 HB1 HR1 HX1 HT1 HK1 HD1; go_upto_region 15 with (fail)
    clear hc c0 z0; obtain ⟨W, hW⟩ : ∃ W, W = w2.setCell ⟨w.heap.size, 3, none⟩ (.int .i64 n) := ⟨_, rfl⟩
    rw [← hW] at HB HR HX HT HD HK ⊢
    clear hW; obtain ⟨c0, c1, c2, c3, c4, c5⟩ := And.intro (HB.out.cell 0) ( And.intro (HB.out.cell 1) ( And.intro (HB.out.cell 2) ( And.intro (HB.out.cell 3) ( And.intro (HB.out.cell 4) (HB.out.cell 5)))))
    simp only [List.getElem?_toArray, List.getElem?_cons_zero, List.getElem?_cons_succ] at c0 c1 c2 c3 c4 c5
    obtain ⟨r0, r1, r2, r3, r4, r5⟩ := And.intro (HR.out.cell 0) ( And.intro (HR.out.cell 1) ( And.intro (HR.out.cell 2) ( And.intro (HR.out.cell 3) ( And.intro (HR.out.cell 4) (HR.out.cell 5)))))
    simp only [List.getElem?_toArray, List.getElem?_cons_zero, List.getElem?_cons_succ] at r0 r1 r2 r3 r4 r5
    obtain ⟨z0, z1, z2, z3, z4, z5⟩ := And.intro (HR.out.frozen 0) ( And.intro (HR.out.frozen 1) ( And.intro (HR.out.frozen 2) ( And.intro (HR.out.frozen 3) ( And.intro (HR.out.frozen 4) (HR.out.frozen 5)))))
    go_wp2_with fail
    obtain ⟨W9, hW, B9, fX, fD, fK⟩ := fill6 HR.out (by decide) (.int .i64 s.first) (.int .i64 s.last) (.int .i64 s.every) (.int .i64 n) (.slice p1 s.ex.length kx) (.slice p2 s.xt.length kt)
    rw [← hW]; have X9 := fX _ _ _ HX.out
    have T9 := fX _ _ _ HT.out
    have D9 := fD b (by omega) HD.out
    have K9 := fK b w.heap.size w (by omega) HK.out
    clear hW fX fD fK c0 r0 z0 c1 r1 z1 c2 r2 z2 c3 r3 z3 c4 r4 z4 c5 r5 z5; have r0 : W9.cell? ⟨w.heap.size + 1, 0, none⟩ = some (.int .i64 s.first) := B9.cell 0
    have r1 : W9.cell? ⟨w.heap.size + 1, 1, none⟩ = some (.int .i64 s.last) := B9.cell 1
    have r2 : W9.cell? ⟨w.heap.size + 1, 2, none⟩ = some (.int .i64 s.every) := B9.cell 2
    have r3 : W9.cell? ⟨w.heap.size + 1, 3, none⟩ = some (.int .i64 n) := B9.cell 3
    have r4 : W9.cell? ⟨w.heap.size + 1, 4, none⟩ = some (.slice p1 s.ex.length kx) := B9.cell 4
    have r5 : W9.cell? ⟨w.heap.size + 1, 5, none⟩ = some (.slice p2 s.xt.length kt) := B9.cell 5
    refine bodyPost_ret (v := serVal ⟨s.first, s.last, s.every, n, s.ex, s.xt⟩ (.slice p1 s.ex.length kx) (.slice p2 s.xt.length kt)) (by simp [results, Tryz.results79, go_sem, r0, r1, r2, r3, r4, r5, serVal]) rfl ?_
    exact ⟨⟨s.first, s.last, s.every, n, s.ex, s.xt⟩, _, _, rfl, X9, T9, by first | omega | (simp; omega), by first | omega | (simp; omega), D9, K9⟩
  · go_wp2_with fail
    have hbB : b < w1.heap.size := HD1.out.lt
    have HD0 := HD1; clear HD1; refine wp_region_tail 7 (by kernel_rfl) (fun listed a x => ∃ (l0 l1 l2 l3 l4 l5 l6 : Bool) (t50 t51 t52 t53 t54 t55 t56 : Value), listed = #[l0, l1, l2, l3, l4, l5, l6, false, false, false, false, false] ∧ a = ⟨(.pointer (some ⟨b, 0, none⟩) :: .agg #[.int .i64 s.first, .int .i64 s.last, .int .i64 s.every, .int .i64 s.wd, .slice p1 s.ex.length kx, .slice p2 s.xt.length kt] :: undef :: .pointer (some ⟨w.heap.size, 0, none⟩) :: .pointer (some ⟨w.heap.size + 1, 0, none⟩) :: .pointer (some ⟨b, 0, none⟩) :: .int .i64 4 :: undef :: undef :: undef :: undef :: undef :: undef :: .bool false :: .bool false :: undef :: undef :: undef :: undef :: undef :: undef :: .bool false :: .bool false :: undef :: undef :: undef :: undef :: undef :: undef :: undef :: undef :: undef :: .bool false :: .bool false :: undef :: undef :: undef :: undef :: undef :: undef :: .bool false :: .bool false :: undef :: undef :: undef :: undef :: undef :: undef :: .bool true :: .bool true :: t50 :: t51 :: t52 :: t53 :: t54 :: t55 :: t56 :: undef :: undef :: undef :: undef :: undef :: undef :: undef :: undef :: undef :: undef :: undef :: undef :: undef :: undef :: undef :: undef :: undef :: undef :: []).toArray, []⟩ ∧ Hid (l0 = true → t50 = .pointer (some ⟨w.heap.size, 4, none⟩)) ∧ Hid (l1 = true → t51 = .slice p1 s.ex.length kx) ∧ Hid (l2 = true → ∃ (pv : Option Addr) (cv : Nat), t52 = .slice pv s.ex.length cv ∧ RowI w1.heap.size x (.slice pv s.ex.length cv) s.ex) ∧ Hid (l3 = true → t53 = .pointer (some ⟨w.heap.size, 0, none⟩)) ∧ Hid (l4 = true → t54 = .int .i64 s.first) ∧ Hid (l5 = true → t55 = .pointer (some ⟨b, 0, none⟩)) ∧ Hid (l6 = true → ∃ (n : Int), t56 = .int .i64 n ∧ 0 ≤ n ∧ n ≤ 59) ∧ Hid (Sofar b w1 x)) (by decide) (by kernel_rfl) (by kernel_rfl) ?_ ?_ ?_ ?_
    · exact ⟨false, false, false, false, false, false, false, _, _, _, _, _, _, _, rfl, rfl, Lib.hid (fun h => by cases h), Lib.hid (fun h => by cases h), Lib.hid (fun h => by cases h), Lib.hid (fun h => by cases h), Lib.hid (fun h => by cases h), Lib.hid (fun h => by cases h), Lib.hid (fun h => by cases h), Lib.hid (Sofar.start HD0.out)⟩
    · intro listed a x hj; obtain ⟨l0, hj⟩ := hj
      obtain ⟨l1, hj⟩ := hj; obtain ⟨l2, hj⟩ := hj; obtain ⟨l3, hj⟩ := hj; obtain ⟨l4, hj⟩ := hj; obtain ⟨l5, hj⟩ := hj; obtain ⟨l6, hj⟩ := hj; obtain ⟨t50, hj⟩ := hj; obtain ⟨t51, hj⟩ := hj; obtain ⟨t52, hj⟩ := hj; obtain ⟨t53, hj⟩ := hj; obtain ⟨t54, hj⟩ := hj; obtain ⟨t55, hj⟩ := hj; obtain ⟨t56, hj⟩ := hj; obtain ⟨h1, -⟩ := hj; subst h1; exact ⟨rfl, fun k h1 h2 => by (have h2 : k < 12 := h2); rcases (show k = 7 ∨ k = 8 ∨ k = 9 ∨ k = 10 ∨ k = 11 by omega) with rfl | rfl | rfl | rfl | rfl <;> rfl⟩
    · intro listed a x i hj hlt hu haf; obtain ⟨l0, hj⟩ := hj
      obtain ⟨l1, hj⟩ := hj; obtain ⟨l2, hj⟩ := hj; obtain ⟨l3, hj⟩ := hj; obtain ⟨l4, hj⟩ := hj; obtain ⟨l5, hj⟩ := hj; obtain ⟨l6, hj⟩ := hj; obtain ⟨t50, hj⟩ := hj; obtain ⟨t51, hj⟩ := hj; obtain ⟨t52, hj⟩ := hj; obtain ⟨t53, hj⟩ := hj; obtain ⟨t54, hj⟩ := hj; obtain ⟨t55, hj⟩ := hj; obtain ⟨t56, hj⟩ := hj; obtain ⟨hl_, hj⟩ := hj; obtain ⟨ha_, hj⟩ := hj; obtain ⟨H0, hj⟩ := hj; obtain ⟨H1, hj⟩ := hj; obtain ⟨H2, hj⟩ := hj; obtain ⟨H3, hj⟩ := hj; obtain ⟨H4, hj⟩ := hj; obtain ⟨H5, hj⟩ := hj; obtain ⟨H6, hj⟩ := hj; have HS := hj; clear hj; subst hl_; subst ha_; rcases (show ∀ i : Nat, i < 7 → (i = 0 ∨ i = 1 ∨ i = 2 ∨ i = 3 ∨ i = 4 ∨ i = 5 ∨ i = 6) by decide) i hlt with rfl | rfl | rfl | rfl | rfl | rfl | rfl
      · have haf := haf _ rfl; clear haf
        have hu : l0 = false := hu
        refine wpOp_of_list_any rfl fun QQ hQ => ?_
        have hQQ := Lib.hid hQ; clear hQ; simp only [List.getElem_toArray, List.getElem_cons_zero]
        go_wp2_with fail
        exact hQQ.out _ _ ⟨true, l1, l2, l3, l4, l5, l6, _, _, _, _, _, _, _, rfl, rfl, Lib.hid (fun _ => rfl), H1, H2, H3, H4, H5, H6, HS⟩
      · have haf := haf _ rfl; have q0 : l0 = true := haf ⟨0, Go.Ground.data⟩ (by simp) rfl
        clear haf; have hu : l1 = false := hu
        have e0 := (H0.out q0)
        subst e0; clear H0; have hc : x.cell? ⟨w.heap.size, 4, none⟩ = some (.slice p1 s.ex.length kx) := (HS.out.blk HB1.out hSb).cell 4
        refine wpOp_of_list_any rfl fun QQ hQ => ?_
        have hQQ := Lib.hid hQ; clear hQ; simp only [List.getElem_toArray, List.getElem_cons_zero, List.getElem_cons_succ]
        go_wp2_with fail
        exact hQQ.out _ _ ⟨l0, true, l2, l3, l4, l5, l6, _, _, _, _, _, _, _, rfl, rfl, Lib.hid (fun _ => rfl), Lib.hid (fun _ => rfl), H2, H3, H4, H5, H6, HS⟩
      · have haf := haf _ rfl; have q1 : l1 = true := haf ⟨1, Go.Ground.data⟩ (by simp) rfl
        clear haf; have hu : l2 = false := hu
        have e1 := (H1.out q1)
        subst e1; clear H1; refine wpOp_of_list_any rfl fun QQ hQ => ?_
        have hQQ := Lib.hid hQ; clear hQ; simp only [List.getElem_toArray, List.getElem_cons_zero, List.getElem_cons_succ]
        have hX2 : RowI lo x _ s.ex := row_but HX1.out hb HS.out.but
        go_wp2_with (at_builtin; refine wpList_append_row rfl (.const (.slice none 0 0)) (.tmp 51) 27 rfl w1.heap.size 3 i0 (.int .i64 0) 1 8 Tryz.underlying27 hi hz0 hz1 hz2 rfl (by decide) _ _ _ rfl (World.ownsRow_nil x _ _ _) lo _ _ _ rfl hX2 (ints_one _) (by unfold maxLen; omega) (by omega) HS.out.but.size ?_)
        intro v' x1 hown hgrow hat; have hown : x1.ownsRow w1.heap.size 3 1 v' s.ex.length (s.ex.map (Value.int .i64)) := by simpa using hown
        have hgrow : x.grownBy x1 none := hgrow
        have hk := Kept.grown0 (B := w1.heap.size) hgrow
        have HS1 := Lib.hid (HS.out.grown0 hgrow)
        obtain ⟨pv, cv, hv⟩ := ownsRow_len hown
        subst hv; have HN := Lib.hid hown; clear hown hgrow hat hX2; go_wp2_with fail
        exact hQQ.out _ _ ⟨l0, l1, true, l3, l4, l5, l6, _, _, _, _, _, _, _, rfl, rfl, H0, Lib.hid (fun _ => rfl), Lib.hid (fun _ => ⟨_, _, rfl, HN.out⟩), H3, H4, H5, H6, HS1⟩
      · have haf := haf _ rfl; clear haf
        have hu : l3 = false := hu
        refine wpOp_of_list_any rfl fun QQ hQ => ?_
        have hQQ := Lib.hid hQ; clear hQ; simp only [List.getElem_toArray, List.getElem_cons_zero, List.getElem_cons_succ]
        go_wp2_with fail
        exact hQQ.out _ _ ⟨l0, l1, l2, true, l4, l5, l6, _, _, _, _, _, _, _, rfl, rfl, H0, H1, H2, Lib.hid (fun _ => rfl), H4, H5, H6, HS⟩
      · have haf := haf _ rfl; have q3 : l3 = true := haf ⟨3, Go.Ground.data⟩ (by simp) rfl
        clear haf; have hu : l4 = false := hu
        have e3 := (H3.out q3)
        subst e3; clear H3; have hc : x.cell? ⟨w.heap.size, 0, none⟩ = some (.int .i64 s.first) := (HS.out.blk HB1.out hSb).cell 0
        refine wpOp_of_list_any rfl fun QQ hQ => ?_
        have hQQ := Lib.hid hQ; clear hQ; simp only [List.getElem_toArray, List.getElem_cons_zero, List.getElem_cons_succ]
        go_wp2_with fail
        exact hQQ.out _ _ ⟨l0, l1, l2, l3, true, l5, l6, _, _, _, _, _, _, _, rfl, rfl, H0, H1, H2, Lib.hid (fun _ => rfl), Lib.hid (fun _ => rfl), H5, H6, HS⟩
      · have haf := haf _ rfl; clear haf
        have hu : l5 = false := hu
        refine wpOp_of_list_any rfl fun QQ hQ => ?_
        have hQQ := Lib.hid hQ; clear hQ; simp only [List.getElem_toArray, List.getElem_cons_zero, List.getElem_cons_succ]
        go_wp2_with fail
        exact hQQ.out _ _ ⟨l0, l1, l2, l3, l4, true, l6, _, _, _, _, _, _, _, rfl, rfl, H0, H1, H2, H3, H4, Lib.hid (fun _ => rfl), H6, HS⟩
      · have haf := haf _ rfl; have q5 : l5 = true := haf ⟨5, Go.Ground.data⟩ (by simp) rfl
        clear haf; have hu : l6 = false := hu
        have e5 := (H5.out q5)
        subst e5; clear H5; refine wpOp_of_list_any rfl fun QQ hQ => ?_
        have hQQ := Lib.hid hQ; clear hQ; simp only [List.getElem_toArray, List.getElem_cons_zero, List.getElem_cons_succ]
        go_wp2_with fail
        refine (next_any b 60 _ HS.out.dice (by omega) (by omega)).mono ?_
        rintro e x1 ⟨v, rfl, h0, h1, -, hd1, ho1⟩; have h1 := h1 (by omega)
        have hk := Kept.only ho1 hbB; have HS1 := Lib.hid (HS.out.only hd1 ho1)
        clear ho1 hd1; go_wp2_with fail
        exact hQQ.out _ _ ⟨l0, l1, l2, l3, l4, l5, true, _, _, _, _, _, _, _, rfl, rfl, H0, H1, Lib.hid (fun h => (by obtain ⟨pv, cv, e, c0⟩ := H2.out h; exact ⟨pv, cv, e, (row_kept c0 hk)⟩)), H3, H4, Lib.hid (fun _ => rfl), Lib.hid (fun _ => ⟨_, rfl, by omega, by omega⟩), HS1⟩
    · intro listed a x hj hall; obtain ⟨l0, hj⟩ := hj
      obtain ⟨l1, hj⟩ := hj; obtain ⟨l2, hj⟩ := hj; obtain ⟨l3, hj⟩ := hj; obtain ⟨l4, hj⟩ := hj; obtain ⟨l5, hj⟩ := hj; obtain ⟨l6, hj⟩ := hj; obtain ⟨t50, hj⟩ := hj; obtain ⟨t51, hj⟩ := hj; obtain ⟨t52, hj⟩ := hj; obtain ⟨t53, hj⟩ := hj; obtain ⟨t54, hj⟩ := hj; obtain ⟨t55, hj⟩ := hj; obtain ⟨t56, hj⟩ := hj; obtain ⟨hl_, hj⟩ := hj; obtain ⟨ha_, hj⟩ := hj; obtain ⟨H0, hj⟩ := hj; obtain ⟨H1, hj⟩ := hj; obtain ⟨H2, hj⟩ := hj; obtain ⟨H3, hj⟩ := hj; obtain ⟨H4, hj⟩ := hj; obtain ⟨H5, hj⟩ := hj; obtain ⟨H6, hj⟩ := hj; have HS := hj; clear hj; subst hl_; subst ha_; have q2 : l2 = true := hall 2 (by omega)
      have q4 : l4 = true := hall 4 (by omega)
      have q6 : l6 = true := hall 6 (by omega)
      clear hall; obtain ⟨pv2, cv2, e2, c2_0⟩ := (H2.out q2)
      subst e2; have e4 := (H4.out q4)
      subst e4; obtain ⟨n6, e6, c6_0, c6_1⟩ := (H6.out q6)
      subst e6; have B2 := HS.out.blk HB1.out hSb
      have R2 := HS.out.blk HR1.out hRb
      have O2 : RowI lo x _ s.xt := row_but HT1.out hb HS.out.but
      have K2 := but_then HK1.out HS.out.but HK1.out.size
      have hsx := HS.out.but.size; have hA := row_apart_old HT1.out c2_0
      refine tail_any (fun a x => ∃ (t50 t51 t52 t53 t54 t55 t56 t57 t58 t59 t60 : Value), a = ⟨(.pointer (some ⟨b, 0, none⟩) :: .agg #[.int .i64 s.first, .int .i64 s.last, .int .i64 s.every, .int .i64 s.wd, .slice p1 s.ex.length kx, .slice p2 s.xt.length kt] :: undef :: .pointer (some ⟨w.heap.size, 0, none⟩) :: .pointer (some ⟨w.heap.size + 1, 0, none⟩) :: .pointer (some ⟨b, 0, none⟩) :: .int .i64 4 :: undef :: undef :: undef :: undef :: undef :: undef :: .bool false :: .bool false :: undef :: undef :: undef :: undef :: undef :: undef :: .bool false :: .bool false :: undef :: undef :: undef :: undef :: undef :: undef :: undef :: undef :: undef :: .bool false :: .bool false :: undef :: undef :: undef :: undef :: undef :: undef :: .bool false :: .bool false :: undef :: undef :: undef :: undef :: undef :: undef :: .bool true :: .bool true :: t50 :: t51 :: t52 :: t53 :: t54 :: t55 :: t56 :: t57 :: t58 :: t59 :: t60 :: undef :: undef :: undef :: undef :: undef :: undef :: undef :: undef :: undef :: undef :: undef :: undef :: undef :: undef :: []).toArray, []⟩ ∧ ∃ (m : Int) (pv : Option Addr) (cv : Nat), Blk w.heap.size #[.int .i64 s.first, .int .i64 s.last, .int .i64 s.every, .int .i64 s.wd, .slice pv (s.ex.length + 1) cv, .slice p2 s.xt.length kt] 80 x ∧ Blk (w.heap.size + 1) #[.int .i64 0, .int .i64 0, .int .i64 0, .int .i64 0, .slice none 0 0, .slice none 0 0] 80 x ∧ RowI lo x (.slice pv (s.ex.length + 1) cv) (s.ex ++ [m]) ∧ RowI lo x (.slice p2 s.xt.length kt) s.xt ∧ Dice b x ∧ But b w.heap.size w x) ?_ fun QQ hQ => ?_
      · intro a x hpost; obtain ⟨t50, hpost⟩ := hpost
        obtain ⟨t51, hpost⟩ := hpost; obtain ⟨t52, hpost⟩ := hpost; obtain ⟨t53, hpost⟩ := hpost; obtain ⟨t54, hpost⟩ := hpost; obtain ⟨t55, hpost⟩ := hpost; obtain ⟨t56, hpost⟩ := hpost; obtain ⟨t57, hpost⟩ := hpost; obtain ⟨t58, hpost⟩ := hpost; obtain ⟨t59, hpost⟩ := hpost; obtain ⟨t60, hpost⟩ := hpost; obtain ⟨ha_, hpost⟩ := hpost; subst ha_; obtain ⟨m, pv, cv, p1_, p2_, p3_, p4_, p5_, p6_⟩ := hpost; have HB := Lib.hid p1_; have HR := Lib.hid p2_; have HX := Lib.hid p3_; have HT := Lib.hid p4_; have HD := Lib.hid p5_; have HK := Lib.hid p6_; clear p1_ p2_ p3_ p4_ p5_ p6_ HB1 HR1 HX1 HT1 HK1 HD0; go_upto_region 15 with (fail)
        obtain ⟨c0, c1, c2, c3, c4, c5⟩ := And.intro (HB.out.cell 0) ( And.intro (HB.out.cell 1) ( And.intro (HB.out.cell 2) ( And.intro (HB.out.cell 3) ( And.intro (HB.out.cell 4) (HB.out.cell 5)))))
        simp only [List.getElem?_toArray, List.getElem?_cons_zero, List.getElem?_cons_succ] at c0 c1 c2 c3 c4 c5
        obtain ⟨r0, r1, r2, r3, r4, r5⟩ := And.intro (HR.out.cell 0) ( And.intro (HR.out.cell 1) ( And.intro (HR.out.cell 2) ( And.intro (HR.out.cell 3) ( And.intro (HR.out.cell 4) (HR.out.cell 5)))))
        simp only [List.getElem?_toArray, List.getElem?_cons_zero, List.getElem?_cons_succ] at r0 r1 r2 r3 r4 r5
        obtain ⟨z0, z1, z2, z3, z4, z5⟩ := And.intro (HR.out.frozen 0) ( And.intro (HR.out.frozen 1) ( And.intro (HR.out.frozen 2) ( And.intro (HR.out.frozen 3) ( And.intro (HR.out.frozen 4) (HR.out.frozen 5)))))
        go_wp2_with fail
        obtain ⟨W9, hW, B9, fX, fD, fK⟩ := fill6 HR.out (by decide) (.int .i64 s.first) (.int .i64 s.last) (.int .i64 s.every) (.int .i64 s.wd) (.slice pv (s.ex.length + 1) cv) (.slice p2 s.xt.length kt)
        rw [← hW]; have X9 := fX _ _ _ HX.out
        have T9 := fX _ _ _ HT.out
        have D9 := fD b (by omega) HD.out
        have K9 := fK b w.heap.size w (by omega) HK.out
        clear hW fX fD fK c0 r0 z0 c1 r1 z1 c2 r2 z2 c3 r3 z3 c4 r4 z4 c5 r5 z5; have r0 : W9.cell? ⟨w.heap.size + 1, 0, none⟩ = some (.int .i64 s.first) := B9.cell 0
        have r1 : W9.cell? ⟨w.heap.size + 1, 1, none⟩ = some (.int .i64 s.last) := B9.cell 1
        have r2 : W9.cell? ⟨w.heap.size + 1, 2, none⟩ = some (.int .i64 s.every) := B9.cell 2
        have r3 : W9.cell? ⟨w.heap.size + 1, 3, none⟩ = some (.int .i64 s.wd) := B9.cell 3
        have r4 : W9.cell? ⟨w.heap.size + 1, 4, none⟩ = some (.slice pv (s.ex.length + 1) cv) := B9.cell 4
        have r5 : W9.cell? ⟨w.heap.size + 1, 5, none⟩ = some (.slice p2 s.xt.length kt) := B9.cell 5
        refine bodyPost_ret (v := serVal ⟨s.first, s.last, s.every, s.wd, s.ex ++ [m], s.xt⟩ (.slice pv (s.ex.length + 1) cv) (.slice p2 s.xt.length kt)) (by simp [results, Tryz.results79, go_sem, r0, r1, r2, r3, r4, r5, serVal]) rfl ?_
        exact ⟨⟨s.first, s.last, s.every, s.wd, s.ex ++ [m], s.xt⟩, _, _, rfl, X9, T9, by first | omega | (simp; omega), by first | omega | (simp; omega), D9, K9⟩
      have hQQ := Lib.hid hQ; clear hQ; simp only [List.drop_succ_cons, List.drop_zero]
      go_wp2_with (at_builtin; refine wpList_append_own_at _ rfl (.tmp 52) (.tmp 58) 27 rfl w1.heap.size 3 i0 (.int .i64 0) 1 8 Tryz.underlying27 hi hz0 hz1 hz2 rfl (by decide) _ _ _ rfl (World.ownsRow.alloc c2_0 _) ⟨x.heap.size, 0, none⟩ 1 1 [.int .i64 _] rfl rfl (cell_one _ _ _) (by intro u hu; simp at hu; subst hu; rfl) (by unfold maxLen; omega) (by omega) (by simp; omega) ?_)
      intro v' x8 hown8 hgrow _ hat; obtain ⟨p8, q8, hv8⟩ := ownsRow_len hown8
      subst hv8; have S8 := (B2.alloc (.cells #[.int .i64 _] 3)).grown (World.ownsRow.alloc c2_0 _) hgrow (by decide)
      have R8 := (R2.alloc (.cells #[.int .i64 _] 3)).grown (World.ownsRow.alloc c2_0 _) hgrow (by decide)
      have O8 : RowI lo x8 _ s.xt := World.ownsRow.kept (World.ownsRow.alloc O2 _) hgrow hA
      have K8 := but_grown (but_alloc K2 K2.size _) (ownsRow_mono (World.ownsRow.alloc c2_0 _) HK1.out.size) (by have := K2.size; simp; omega) hgrow
      have D8 := dice_grown (dice_alloc HS.out.dice _) (World.ownsRow.alloc c2_0 _) hbB (by simp; omega) hgrow
      have N8 : RowI lo x8 _ (s.ex ++ [_]) := ownsRow_mono (RowI.snoc hown8) (by have := HK1.out.size; omega)
      have f0 : x8.cell? ⟨w.heap.size, 4, none⟩ = some (.slice p1 s.ex.length kx) := S8.cell 4
      have z0 := S8.frozen 4; have HB9 := Lib.hid (S8.set 4 (.slice p8 (s.ex.length + 1) q8))
      have HR9 := Lib.hid (R8.set_other (show w.heap.size + 1 ≠ w.heap.size by omega) 4 (.slice p8 (s.ex.length + 1) q8))
      have HO9 := Lib.hid (row_set O8 S8 (by decide) 4 (.slice p8 (s.ex.length + 1) q8))
      have HN9 := Lib.hid (row_set N8 S8 (by decide) 4 (.slice p8 (s.ex.length + 1) q8))
      have HD9 := Lib.hid (dice_set (i := 4) (u := .slice p8 (s.ex.length + 1) q8) D8 hblt)
      have HK9 := Lib.hid (but_set (i := 4) (u := .slice p8 (s.ex.length + 1) q8) K8 (Nat.le_refl _))
      clear hown8 hgrow hat S8 R8 O8 K8 D8 N8 B2 R2 O2 K2 hA; go_wp2_with fail
      exact hQQ.out _ _ ⟨_, _, _, _, _, _, _, _, _, _, _, rfl, _, _, _, HB9.out, HR9.out, HN9.out, HO9.out, HD9.out, HK9.out⟩
  · go_wp2_with fail
    have hbB : b < w1.heap.size := HD1.out.lt
    have HD0 := HD1; clear HD1; refine wp_region_tail 7 (by kernel_rfl) (fun listed a x => ∃ (l0 l1 l2 l3 l4 l5 l6 : Bool) (t63 t64 t65 t66 t67 t68 t69 : Value), listed = #[l0, l1, l2, l3, l4, l5, l6, false, false, false, false, false] ∧ a = ⟨(.pointer (some ⟨b, 0, none⟩) :: .agg #[.int .i64 s.first, .int .i64 s.last, .int .i64 s.every, .int .i64 s.wd, .slice p1 s.ex.length kx, .slice p2 s.xt.length kt] :: undef :: .pointer (some ⟨w.heap.size, 0, none⟩) :: .pointer (some ⟨w.heap.size + 1, 0, none⟩) :: .pointer (some ⟨b, 0, none⟩) :: .int .i64 5 :: undef :: undef :: undef :: undef :: undef :: undef :: .bool false :: .bool false :: undef :: undef :: undef :: undef :: undef :: undef :: .bool false :: .bool false :: undef :: undef :: undef :: undef :: undef :: undef :: undef :: undef :: undef :: .bool false :: .bool false :: undef :: undef :: undef :: undef :: undef :: undef :: .bool false :: .bool false :: undef :: undef :: undef :: undef :: undef :: undef :: .bool false :: .bool false :: undef :: undef :: undef :: undef :: undef :: undef :: undef :: undef :: undef :: undef :: undef :: .bool true :: .bool true :: t63 :: t64 :: t65 :: t66 :: t67 :: t68 :: t69 :: undef :: undef :: undef :: undef :: undef :: []).toArray, []⟩ ∧ Hid (l0 = true → t63 = .pointer (some ⟨w.heap.size, 5, none⟩)) ∧ Hid (l1 = true → t64 = .slice p2 s.xt.length kt) ∧ Hid (l2 = true → ∃ (pv : Option Addr) (cv : Nat), t65 = .slice pv s.xt.length cv ∧ RowI w1.heap.size x (.slice pv s.xt.length cv) s.xt) ∧ Hid (l3 = true → t66 = .pointer (some ⟨w.heap.size, 0, none⟩)) ∧ Hid (l4 = true → t67 = .int .i64 s.first) ∧ Hid (l5 = true → t68 = .pointer (some ⟨b, 0, none⟩)) ∧ Hid (l6 = true → ∃ (n : Int), t69 = .int .i64 n ∧ 0 ≤ n ∧ n ≤ 59) ∧ Hid (Sofar b w1 x)) (by decide) (by kernel_rfl) (by kernel_rfl) ?_ ?_ ?_ ?_
    · exact ⟨false, false, false, false, false, false, false, _, _, _, _, _, _, _, rfl, rfl, Lib.hid (fun h => by cases h), Lib.hid (fun h => by cases h), Lib.hid (fun h => by cases h), Lib.hid (fun h => by cases h), Lib.hid (fun h => by cases h), Lib.hid (fun h => by cases h), Lib.hid (fun h => by cases h), Lib.hid (Sofar.start HD0.out)⟩
    · intro listed a x hj; obtain ⟨l0, hj⟩ := hj
      obtain ⟨l1, hj⟩ := hj; obtain ⟨l2, hj⟩ := hj; obtain ⟨l3, hj⟩ := hj; obtain ⟨l4, hj⟩ := hj; obtain ⟨l5, hj⟩ := hj; obtain ⟨l6, hj⟩ := hj; obtain ⟨t63, hj⟩ := hj; obtain ⟨t64, hj⟩ := hj; obtain ⟨t65, hj⟩ := hj; obtain ⟨t66, hj⟩ := hj; obtain ⟨t67, hj⟩ := hj; obtain ⟨t68, hj⟩ := hj; obtain ⟨t69, hj⟩ := hj; obtain ⟨h1, -⟩ := hj; subst h1; exact ⟨rfl, fun k h1 h2 => by (have h2 : k < 12 := h2); rcases (show k = 7 ∨ k = 8 ∨ k = 9 ∨ k = 10 ∨ k = 11 by omega) with rfl | rfl | rfl | rfl | rfl <;> rfl⟩
    · intro listed a x i hj hlt hu haf; obtain ⟨l0, hj⟩ := hj
      obtain ⟨l1, hj⟩ := hj; obtain ⟨l2, hj⟩ := hj; obtain ⟨l3, hj⟩ := hj; obtain ⟨l4, hj⟩ := hj; obtain ⟨l5, hj⟩ := hj; obtain ⟨l6, hj⟩ := hj; obtain ⟨t63, hj⟩ := hj; obtain ⟨t64, hj⟩ := hj; obtain ⟨t65, hj⟩ := hj; obtain ⟨t66, hj⟩ := hj; obtain ⟨t67, hj⟩ := hj; obtain ⟨t68, hj⟩ := hj; obtain ⟨t69, hj⟩ := hj; obtain ⟨hl_, hj⟩ := hj; obtain ⟨ha_, hj⟩ := hj; obtain ⟨H0, hj⟩ := hj; obtain ⟨H1, hj⟩ := hj; obtain ⟨H2, hj⟩ := hj; obtain ⟨H3, hj⟩ := hj; obtain ⟨H4, hj⟩ := hj; obtain ⟨H5, hj⟩ := hj; obtain ⟨H6, hj⟩ := hj; have HS := hj; clear hj; subst hl_; subst ha_; rcases (show ∀ i : Nat, i < 7 → (i = 0 ∨ i = 1 ∨ i = 2 ∨ i = 3 ∨ i = 4 ∨ i = 5 ∨ i = 6) by decide) i hlt with rfl | rfl | rfl | rfl | rfl | rfl | rfl
      · have haf := haf _ rfl; clear haf
        have hu : l0 = false := hu
        refine wpOp_of_list_any rfl fun QQ hQ => ?_
        have hQQ := Lib.hid hQ; clear hQ; simp only [List.getElem_toArray, List.getElem_cons_zero]
        go_wp2_with fail
        exact hQQ.out _ _ ⟨true, l1, l2, l3, l4, l5, l6, _, _, _, _, _, _, _, rfl, rfl, Lib.hid (fun _ => rfl), H1, H2, H3, H4, H5, H6, HS⟩
      · have haf := haf _ rfl; have q0 : l0 = true := haf ⟨0, Go.Ground.data⟩ (by simp) rfl
        clear haf; have hu : l1 = false := hu
        have e0 := (H0.out q0)
        subst e0; clear H0; have hc : x.cell? ⟨w.heap.size, 5, none⟩ = some (.slice p2 s.xt.length kt) := (HS.out.blk HB1.out hSb).cell 5
        refine wpOp_of_list_any rfl fun QQ hQ => ?_
        have hQQ := Lib.hid hQ; clear hQ; simp only [List.getElem_toArray, List.getElem_cons_zero, List.getElem_cons_succ]
        go_wp2_with fail
        exact hQQ.out _ _ ⟨l0, true, l2, l3, l4, l5, l6, _, _, _, _, _, _, _, rfl, rfl, Lib.hid (fun _ => rfl), Lib.hid (fun _ => rfl), H2, H3, H4, H5, H6, HS⟩
      · have haf := haf _ rfl; have q1 : l1 = true := haf ⟨1, Go.Ground.data⟩ (by simp) rfl
        clear haf; have hu : l2 = false := hu
        have e1 := (H1.out q1)
        subst e1; clear H1; refine wpOp_of_list_any rfl fun QQ hQ => ?_
        have hQQ := Lib.hid hQ; clear hQ; simp only [List.getElem_toArray, List.getElem_cons_zero, List.getElem_cons_succ]
        have hX2 : RowI lo x _ s.xt := row_but HT1.out hb HS.out.but
        go_wp2_with (at_builtin; refine wpList_append_row rfl (.const (.slice none 0 0)) (.tmp 64) 27 rfl w1.heap.size 3 i0 (.int .i64 0) 1 8 Tryz.underlying27 hi hz0 hz1 hz2 rfl (by decide) _ _ _ rfl (World.ownsRow_nil x _ _ _) lo _ _ _ rfl hX2 (ints_one _) (by unfold maxLen; omega) (by omega) HS.out.but.size ?_)
        intro v' x1 hown hgrow hat; have hown : x1.ownsRow w1.heap.size 3 1 v' s.xt.length (s.xt.map (Value.int .i64)) := by simpa using hown
        have hgrow : x.grownBy x1 none := hgrow
        have hk := Kept.grown0 (B := w1.heap.size) hgrow
        have HS1 := Lib.hid (HS.out.grown0 hgrow)
        obtain ⟨pv, cv, hv⟩ := ownsRow_len hown
        subst hv; have HN := Lib.hid hown; clear hown hgrow hat hX2; go_wp2_with fail
        exact hQQ.out _ _ ⟨l0, l1, true, l3, l4, l5, l6, _, _, _, _, _, _, _, rfl, rfl, H0, Lib.hid (fun _ => rfl), Lib.hid (fun _ => ⟨_, _, rfl, HN.out⟩), H3, H4, H5, H6, HS1⟩
      · have haf := haf _ rfl; clear haf
        have hu : l3 = false := hu
        refine wpOp_of_list_any rfl fun QQ hQ => ?_
        have hQQ := Lib.hid hQ; clear hQ; simp only [List.getElem_toArray, List.getElem_cons_zero, List.getElem_cons_succ]
        go_wp2_with fail
        exact hQQ.out _ _ ⟨l0, l1, l2, true, l4, l5, l6, _, _, _, _, _, _, _, rfl, rfl, H0, H1, H2, Lib.hid (fun _ => rfl), H4, H5, H6, HS⟩
      · have haf := haf _ rfl; have q3 : l3 = true := haf ⟨3, Go.Ground.data⟩ (by simp) rfl
        clear haf; have hu : l4 = false := hu
        have e3 := (H3.out q3)
        subst e3; clear H3; have hc : x.cell? ⟨w.heap.size, 0, none⟩ = some (.int .i64 s.first) := (HS.out.blk HB1.out hSb).cell 0
        refine wpOp_of_list_any rfl fun QQ hQ => ?_
        have hQQ := Lib.hid hQ; clear hQ; simp only [List.getElem_toArray, List.getElem_cons_zero, List.getElem_cons_succ]
        go_wp2_with fail
        exact hQQ.out _ _ ⟨l0, l1, l2, l3, true, l5, l6, _, _, _, _, _, _, _, rfl, rfl, H0, H1, H2, Lib.hid (fun _ => rfl), Lib.hid (fun _ => rfl), H5, H6, HS⟩
      · have haf := haf _ rfl; clear haf
        have hu : l5 = false := hu
        refine wpOp_of_list_any rfl fun QQ hQ => ?_
        have hQQ := Lib.hid hQ; clear hQ; simp only [List.getElem_toArray, List.getElem_cons_zero, List.getElem_cons_succ]
        go_wp2_with fail
        exact hQQ.out _ _ ⟨l0, l1, l2, l3, l4, true, l6, _, _, _, _, _, _, _, rfl, rfl, H0, H1, H2, H3, H4, Lib.hid (fun _ => rfl), H6, HS⟩
      · have haf := haf _ rfl; have q5 : l5 = true := haf ⟨5, Go.Ground.data⟩ (by simp) rfl
        clear haf; have hu : l6 = false := hu
        have e5 := (H5.out q5)
        subst e5; clear H5; refine wpOp_of_list_any rfl fun QQ hQ => ?_
        have hQQ := Lib.hid hQ; clear hQ; simp only [List.getElem_toArray, List.getElem_cons_zero, List.getElem_cons_succ]
        go_wp2_with fail
        refine (next_any b 60 _ HS.out.dice (by omega) (by omega)).mono ?_
        rintro e x1 ⟨v, rfl, h0, h1, -, hd1, ho1⟩; have h1 := h1 (by omega)
        have hk := Kept.only ho1 hbB; have HS1 := Lib.hid (HS.out.only hd1 ho1)
        clear ho1 hd1; go_wp2_with fail
        exact hQQ.out _ _ ⟨l0, l1, l2, l3, l4, l5, true, _, _, _, _, _, _, _, rfl, rfl, H0, H1, Lib.hid (fun h => (by obtain ⟨pv, cv, e, c0⟩ := H2.out h; exact ⟨pv, cv, e, (row_kept c0 hk)⟩)), H3, H4, Lib.hid (fun _ => rfl), Lib.hid (fun _ => ⟨_, rfl, by omega, by omega⟩), HS1⟩
    · intro listed a x hj hall; obtain ⟨l0, hj⟩ := hj
      obtain ⟨l1, hj⟩ := hj; obtain ⟨l2, hj⟩ := hj; obtain ⟨l3, hj⟩ := hj; obtain ⟨l4, hj⟩ := hj; obtain ⟨l5, hj⟩ := hj; obtain ⟨l6, hj⟩ := hj; obtain ⟨t63, hj⟩ := hj; obtain ⟨t64, hj⟩ := hj; obtain ⟨t65, hj⟩ := hj; obtain ⟨t66, hj⟩ := hj; obtain ⟨t67, hj⟩ := hj; obtain ⟨t68, hj⟩ := hj; obtain ⟨t69, hj⟩ := hj; obtain ⟨hl_, hj⟩ := hj; obtain ⟨ha_, hj⟩ := hj; obtain ⟨H0, hj⟩ := hj; obtain ⟨H1, hj⟩ := hj; obtain ⟨H2, hj⟩ := hj; obtain ⟨H3, hj⟩ := hj; obtain ⟨H4, hj⟩ := hj; obtain ⟨H5, hj⟩ := hj; obtain ⟨H6, hj⟩ := hj; have HS := hj; clear hj; subst hl_; subst ha_; have q2 : l2 = true := hall 2 (by omega)
      have q4 : l4 = true := hall 4 (by omega)
      have q6 : l6 = true := hall 6 (by omega)
      clear hall; obtain ⟨pv2, cv2, e2, c2_0⟩ := (H2.out q2)
      subst e2; have e4 := (H4.out q4)
      subst e4; obtain ⟨n6, e6, c6_0, c6_1⟩ := (H6.out q6)
      subst e6; have B2 := HS.out.blk HB1.out hSb
      have R2 := HS.out.blk HR1.out hRb
      have O2 : RowI lo x _ s.ex := row_but HX1.out hb HS.out.but
      have K2 := but_then HK1.out HS.out.but HK1.out.size
      have hsx := HS.out.but.size; have hA := row_apart_old HX1.out c2_0
      refine tail_any (fun a x => ∃ (t63 t64 t65 t66 t67 t68 t69 t70 t71 t72 t73 : Value), a = ⟨(.pointer (some ⟨b, 0, none⟩) :: .agg #[.int .i64 s.first, .int .i64 s.last, .int .i64 s.every, .int .i64 s.wd, .slice p1 s.ex.length kx, .slice p2 s.xt.length kt] :: undef :: .pointer (some ⟨w.heap.size, 0, none⟩) :: .pointer (some ⟨w.heap.size + 1, 0, none⟩) :: .pointer (some ⟨b, 0, none⟩) :: .int .i64 5 :: undef :: undef :: undef :: undef :: undef :: undef :: .bool false :: .bool false :: undef :: undef :: undef :: undef :: undef :: undef :: .bool false :: .bool false :: undef :: undef :: undef :: undef :: undef :: undef :: undef :: undef :: undef :: .bool false :: .bool false :: undef :: undef :: undef :: undef :: undef :: undef :: .bool false :: .bool false :: undef :: undef :: undef :: undef :: undef :: undef :: .bool false :: .bool false :: undef :: undef :: undef :: undef :: undef :: undef :: undef :: undef :: undef :: undef :: undef :: .bool true :: .bool true :: t63 :: t64 :: t65 :: t66 :: t67 :: t68 :: t69 :: t70 :: t71 :: t72 :: t73 :: undef :: []).toArray, []⟩ ∧ ∃ (m : Int) (pv : Option Addr) (cv : Nat), Blk w.heap.size #[.int .i64 s.first, .int .i64 s.last, .int .i64 s.every, .int .i64 s.wd, .slice p1 s.ex.length kx, .slice pv (s.xt.length + 1) cv] 80 x ∧ Blk (w.heap.size + 1) #[.int .i64 0, .int .i64 0, .int .i64 0, .int .i64 0, .slice none 0 0, .slice none 0 0] 80 x ∧ RowI lo x (.slice p1 s.ex.length kx) s.ex ∧ RowI lo x (.slice pv (s.xt.length + 1) cv) (s.xt ++ [m]) ∧ Dice b x ∧ But b w.heap.size w x) ?_ fun QQ hQ => ?_
      · intro a x hpost; obtain ⟨t63, hpost⟩ := hpost
        obtain ⟨t64, hpost⟩ := hpost; obtain ⟨t65, hpost⟩ := hpost; obtain ⟨t66, hpost⟩ := hpost; obtain ⟨t67, hpost⟩ := hpost; obtain ⟨t68, hpost⟩ := hpost; obtain ⟨t69, hpost⟩ := hpost; obtain ⟨t70, hpost⟩ := hpost; obtain ⟨t71, hpost⟩ := hpost; obtain ⟨t72, hpost⟩ := hpost; obtain ⟨t73, hpost⟩ := hpost; obtain ⟨ha_, hpost⟩ := hpost; subst ha_; obtain ⟨m, pv, cv, p1_, p2_, p3_, p4_, p5_, p6_⟩ := hpost; have HB := Lib.hid p1_; have HR := Lib.hid p2_; have HX := Lib.hid p3_; have HT := Lib.hid p4_; have HD := Lib.hid p5_; have HK := Lib.hid p6_; clear p1_ p2_ p3_ p4_ p5_ p6_ HB1 HR1 HX1 HT1 HK1 HD0; go_upto_region 15 with (fail)
        obtain ⟨c0, c1, c2, c3, c4, c5⟩ := And.intro (HB.out.cell 0) ( And.intro (HB.out.cell 1) ( And.intro (HB.out.cell 2) ( And.intro (HB.out.cell 3) ( And.intro (HB.out.cell 4) (HB.out.cell 5)))))
        simp only [List.getElem?_toArray, List.getElem?_cons_zero, List.getElem?_cons_succ] at c0 c1 c2 c3 c4 c5
        obtain ⟨r0, r1, r2, r3, r4, r5⟩ := And.intro (HR.out.cell 0) ( And.intro (HR.out.cell 1) ( And.intro (HR.out.cell 2) ( And.intro (HR.out.cell 3) ( And.intro (HR.out.cell 4) (HR.out.cell 5)))))
        simp only [List.getElem?_toArray, List.getElem?_cons_zero, List.getElem?_cons_succ] at r0 r1 r2 r3 r4 r5
        obtain ⟨z0, z1, z2, z3, z4, z5⟩ := And.intro (HR.out.frozen 0) ( And.intro (HR.out.frozen 1) ( And.intro (HR.out.frozen 2) ( And.intro (HR.out.frozen 3) ( And.intro (HR.out.frozen 4) (HR.out.frozen 5)))))
        go_wp2_with fail
        obtain ⟨W9, hW, B9, fX, fD, fK⟩ := fill6 HR.out (by decide) (.int .i64 s.first) (.int .i64 s.last) (.int .i64 s.every) (.int .i64 s.wd) (.slice p1 s.ex.length kx) (.slice pv (s.xt.length + 1) cv)
        rw [← hW]; have X9 := fX _ _ _ HX.out
        have T9 := fX _ _ _ HT.out
        have D9 := fD b (by omega) HD.out
        have K9 := fK b w.heap.size w (by omega) HK.out
        clear hW fX fD fK c0 r0 z0 c1 r1 z1 c2 r2 z2 c3 r3 z3 c4 r4 z4 c5 r5 z5; have r0 : W9.cell? ⟨w.heap.size + 1, 0, none⟩ = some (.int .i64 s.first) := B9.cell 0
        have r1 : W9.cell? ⟨w.heap.size + 1, 1, none⟩ = some (.int .i64 s.last) := B9.cell 1
        have r2 : W9.cell? ⟨w.heap.size + 1, 2, none⟩ = some (.int .i64 s.every) := B9.cell 2
        have r3 : W9.cell? ⟨w.heap.size + 1, 3, none⟩ = some (.int .i64 s.wd) := B9.cell 3
        have r4 : W9.cell? ⟨w.heap.size + 1, 4, none⟩ = some (.slice p1 s.ex.length kx) := B9.cell 4
        have r5 : W9.cell? ⟨w.heap.size + 1, 5, none⟩ = some (.slice pv (s.xt.length + 1) cv) := B9.cell 5
        refine bodyPost_ret (v := serVal ⟨s.first, s.last, s.every, s.wd, s.ex, s.xt ++ [m]⟩ (.slice p1 s.ex.length kx) (.slice pv (s.xt.length + 1) cv)) (by simp [results, Tryz.results79, go_sem, r0, r1, r2, r3, r4, r5, serVal]) rfl ?_
        exact ⟨⟨s.first, s.last, s.every, s.wd, s.ex, s.xt ++ [m]⟩, _, _, rfl, X9, T9, by first | omega | (simp; omega), by first | omega | (simp; omega), D9, K9⟩
      have hQQ := Lib.hid hQ; clear hQ; simp only [List.drop_succ_cons, List.drop_zero]
      go_wp2_with (at_builtin; refine wpList_append_own_at _ rfl (.tmp 65) (.tmp 71) 27 rfl w1.heap.size 3 i0 (.int .i64 0) 1 8 Tryz.underlying27 hi hz0 hz1 hz2 rfl (by decide) _ _ _ rfl (World.ownsRow.alloc c2_0 _) ⟨x.heap.size, 0, none⟩ 1 1 [.int .i64 _] rfl rfl (cell_one _ _ _) (by intro u hu; simp at hu; subst hu; rfl) (by unfold maxLen; omega) (by omega) (by simp; omega) ?_)
      intro v' x8 hown8 hgrow _ hat; obtain ⟨p8, q8, hv8⟩ := ownsRow_len hown8
      subst hv8; have S8 := (B2.alloc (.cells #[.int .i64 _] 3)).grown (World.ownsRow.alloc c2_0 _) hgrow (by decide)
      have R8 := (R2.alloc (.cells #[.int .i64 _] 3)).grown (World.ownsRow.alloc c2_0 _) hgrow (by decide)
      have O8 : RowI lo x8 _ s.ex := World.ownsRow.kept (World.ownsRow.alloc O2 _) hgrow hA
      have K8 := but_grown (but_alloc K2 K2.size _) (ownsRow_mono (World.ownsRow.alloc c2_0 _) HK1.out.size) (by have := K2.size; simp; omega) hgrow
      have D8 := dice_grown (dice_alloc HS.out.dice _) (World.ownsRow.alloc c2_0 _) hbB (by simp; omega) hgrow
      have N8 : RowI lo x8 _ (s.xt ++ [_]) := ownsRow_mono (RowI.snoc hown8) (by have := HK1.out.size; omega)
      have f0 : x8.cell? ⟨w.heap.size, 5, none⟩ = some (.slice p2 s.xt.length kt) := S8.cell 5
      have z0 := S8.frozen 5; have HB9 := Lib.hid (S8.set 5 (.slice p8 (s.xt.length + 1) q8))
      have HR9 := Lib.hid (R8.set_other (show w.heap.size + 1 ≠ w.heap.size by omega) 5 (.slice p8 (s.xt.length + 1) q8))
      have HO9 := Lib.hid (row_set O8 S8 (by decide) 5 (.slice p8 (s.xt.length + 1) q8))
      have HN9 := Lib.hid (row_set N8 S8 (by decide) 5 (.slice p8 (s.xt.length + 1) q8))
      have HD9 := Lib.hid (dice_set (i := 5) (u := .slice p8 (s.xt.length + 1) q8) D8 hblt)
      have HK9 := Lib.hid (but_set (i := 5) (u := .slice p8 (s.xt.length + 1) q8) K8 (Nat.le_refl _))
      clear hown8 hgrow hat S8 R8 O8 K8 D8 N8 B2 R2 O2 K2 hA; go_wp2_with fail
      exact hQQ.out _ _ ⟨_, _, _, _, _, _, _, _, _, _, _, rfl, _, _, _, HB9.out, HR9.out, HO9.out, HN9.out, HD9.out, HK9.out⟩
  · obtain ⟨c0, c1, c2, c3, c4, c5⟩ := And.intro (HB1.out.cell 0) ( And.intro (HB1.out.cell 1) ( And.intro (HB1.out.cell 2) ( And.intro (HB1.out.cell 3) ( And.intro (HB1.out.cell 4) (HB1.out.cell 5)))))
    simp only [List.getElem?_toArray, List.getElem?_cons_zero, List.getElem?_cons_succ] at c0 c1 c2 c3 c4 c5
    have z4 := HB1.out.frozen 4; have z5 := HB1.out.frozen 5; have S1 := HB1.out.set 4 (.slice p2 s.xt.length kt)
    have HB := Lib.hid (show Blk w.heap.size #[.int .i64 s.first, .int .i64 s.last, .int .i64 s.every, .int .i64 s.wd, .slice p2 s.xt.length kt, .slice p1 s.ex.length kx] 80 _ from S1.set 5 (.slice p1 s.ex.length kx))
    have HR := Lib.hid ((HR1.out.set_other (show w.heap.size + 1 ≠ w.heap.size by omega) 4 (.slice p2 s.xt.length kt)).set_other (show w.heap.size + 1 ≠ w.heap.size by omega) 5 (.slice p1 s.ex.length kx))
    have HX := Lib.hid (show RowI lo _ _ s.xt from row_set (row_set HT1.out HB1.out (by decide) 4 (.slice p2 s.xt.length kt)) S1 (by decide) 5 (.slice p1 s.ex.length kx))
    have HT := Lib.hid (show RowI lo _ _ s.ex from row_set (row_set HX1.out HB1.out (by decide) 4 (.slice p2 s.xt.length kt)) S1 (by decide) 5 (.slice p1 s.ex.length kx))
    have HD := Lib.hid (dice_set (i := 5) (u := .slice p1 s.ex.length kx) (dice_set (i := 4) (u := .slice p2 s.xt.length kt) HD1.out hblt) hblt)
    have HK := Lib.hid (but_set (i := 5) (u := .slice p1 s.ex.length kx) (but_set (i := 4) (u := .slice p2 s.xt.length kt) HK1.out (Nat.le_refl _)) (Nat.le_refl _))
    clear S1 HB1 HR1 HX1 HT1 HD1 HK1; go_upto_region 15 with (fail)
    clear c0 c1 c2 c3 c4 c5 z4 z5; obtain ⟨W, hW⟩ : ∃ W, W = (w1.setCell ⟨w.heap.size, 4, none⟩ (.slice p2 s.xt.length kt)).setCell ⟨w.heap.size, 5, none⟩ (.slice p1 s.ex.length kx) := ⟨_, rfl⟩
    rw [← hW] at HB HR HX HT HD HK ⊢
    clear hW; obtain ⟨c0, c1, c2, c3, c4, c5⟩ := And.intro (HB.out.cell 0) ( And.intro (HB.out.cell 1) ( And.intro (HB.out.cell 2) ( And.intro (HB.out.cell 3) ( And.intro (HB.out.cell 4) (HB.out.cell 5)))))
    simp only [List.getElem?_toArray, List.getElem?_cons_zero, List.getElem?_cons_succ] at c0 c1 c2 c3 c4 c5
    obtain ⟨r0, r1, r2, r3, r4, r5⟩ := And.intro (HR.out.cell 0) ( And.intro (HR.out.cell 1) ( And.intro (HR.out.cell 2) ( And.intro (HR.out.cell 3) ( And.intro (HR.out.cell 4) (HR.out.cell 5)))))
    simp only [List.getElem?_toArray, List.getElem?_cons_zero, List.getElem?_cons_succ] at r0 r1 r2 r3 r4 r5
    obtain ⟨z0, z1, z2, z3, z4, z5⟩ := And.intro (HR.out.frozen 0) ( And.intro (HR.out.frozen 1) ( And.intro (HR.out.frozen 2) ( And.intro (HR.out.frozen 3) ( And.intro (HR.out.frozen 4) (HR.out.frozen 5)))))
    go_wp2_with fail
    obtain ⟨W9, hW, B9, fX, fD, fK⟩ := fill6 HR.out (by decide) (.int .i64 s.first) (.int .i64 s.last) (.int .i64 s.every) (.int .i64 s.wd) (.slice p2 s.xt.length kt) (.slice p1 s.ex.length kx)
    rw [← hW]; have X9 := fX _ _ _ HX.out
    have T9 := fX _ _ _ HT.out
    have D9 := fD b (by omega) HD.out
    have K9 := fK b w.heap.size w (by omega) HK.out
    clear hW fX fD fK c0 r0 z0 c1 r1 z1 c2 r2 z2 c3 r3 z3 c4 r4 z4 c5 r5 z5; have r0 : W9.cell? ⟨w.heap.size + 1, 0, none⟩ = some (.int .i64 s.first) := B9.cell 0
    have r1 : W9.cell? ⟨w.heap.size + 1, 1, none⟩ = some (.int .i64 s.last) := B9.cell 1
    have r2 : W9.cell? ⟨w.heap.size + 1, 2, none⟩ = some (.int .i64 s.every) := B9.cell 2
    have r3 : W9.cell? ⟨w.heap.size + 1, 3, none⟩ = some (.int .i64 s.wd) := B9.cell 3
    have r4 : W9.cell? ⟨w.heap.size + 1, 4, none⟩ = some (.slice p2 s.xt.length kt) := B9.cell 4
    have r5 : W9.cell? ⟨w.heap.size + 1, 5, none⟩ = some (.slice p1 s.ex.length kx) := B9.cell 5
    refine bodyPost_ret (v := serVal ⟨s.first, s.last, s.every, s.wd, s.xt, s.ex⟩ (.slice p2 s.xt.length kt) (.slice p1 s.ex.length kx)) (by simp [results, Tryz.results79, go_sem, r0, r1, r2, r3, r4, r5, serVal]) rfl ?_
    exact ⟨⟨s.first, s.last, s.every, s.wd, s.xt, s.ex⟩, _, _, rfl, X9, T9, by first | omega | (simp; omega), by first | omega | (simp; omega), D9, K9⟩
end Go.Proofs.YtageielcdebjlaaGreatDoor
