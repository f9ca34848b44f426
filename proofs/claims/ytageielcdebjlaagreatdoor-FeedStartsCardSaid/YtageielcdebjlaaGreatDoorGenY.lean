/- timetablemore.OddZone: its contract: a zone in new memory. -/
import Derived.Test.YtageielcdebjlaaGreatDoorGenZ
namespace Go.Proofs.YtageielcdebjlaaGreatDoor
open Go.RowKit

set_option maxHeartbeats 16000000 in
set_option maxRecDepth 100000 in
theorem oddzone54 (b lo : Nat) (n0 : ByteArray) (v0 : Int) (pz : Option Addr) (cz : Nat) (sh : List (Int × Int)) (w : World) (hd : Dice b w) (hE : RowZ lo w (.slice pz sh.length cz) sh) (hn : n0.size ≤ 1000) (hl : sh.length ≤ 10) :
    Calls Tryz.prog 54 #[.pointer (some ⟨b, 0, none⟩), .agg #[.string n0, .int .i64 v0, .slice pz sh.length cz]] w (ZoneG b 100 w.heap.size w) := by
  obtain ⟨i0, hi, hz0, hz1, hz2⟩ := info_parts infoSh
  have hblt := hd.lt
  have hSb : w.heap.size ≠ b := by omega
  have hRb : w.heap.size + 1 ≠ b := by omega
  have HS0 := Lib.hid ((Blk.new w #[.string n0, .int .i64 v0, .slice pz sh.length cz] 50).alloc (.cells #[.string ⟨#[]⟩, .int .i64 0, .slice none 0 0] 50))
  have HR0 := Lib.hid (Blk.new (w.alloc (.cells #[.string n0, .int .i64 v0, .slice pz sh.length cz] 50)) #[.string ⟨#[]⟩, .int .i64 0, .slice none 0 0] 50)
  have HR0 := Lib.hid (show Blk (w.heap.size + 1) #[.string ⟨#[]⟩, .int .i64 0, .slice none 0 0] 50 _ from by simpa using HR0.out)
  have HK0 := Lib.hid (but_alloc (but_alloc (But.refl b w.heap.size w) (Nat.le_refl _) (.cells #[.string n0, .int .i64 v0, .slice pz sh.length cz] 50)) (by simp) (.cells #[.string ⟨#[]⟩, .int .i64 0, .slice none 0 0] 50))
  have HD0 := Lib.hid (dice_alloc (dice_alloc hd (.cells #[.string n0, .int .i64 v0, .slice pz sh.length cz] 50)) (.cells #[.string ⟨#[]⟩, .int .i64 0, .slice none 0 0] 50))
  have hE0 := World.ownsRow.alloc (World.ownsRow.alloc hE (.cells #[.string n0, .int .i64 v0, .slice pz sh.length cz] 50)) (.cells #[.string ⟨#[]⟩, .int .i64 0, .slice none 0 0] 50)
  have hx0 : w.heap.size ≤ ((w.alloc (.cells #[.string n0, .int .i64 v0, .slice pz sh.length cz] 50)).alloc (.cells #[.string ⟨#[]⟩, .int .i64 0, .slice none 0 0] 50)).heap.size := by simp; omega
  obtain ⟨wa, hwa⟩ : ∃ wa, wa = (w.alloc (.cells #[.string n0, .int .i64 v0, .slice pz sh.length cz] 50)).alloc (.cells #[.string ⟨#[]⟩, .int .i64 0, .slice none 0 0] 50) := ⟨_, rfl⟩
  rw [← hwa] at HS0 HR0 HK0 HD0 hE0 hx0
  have l2 : wa.cell? ⟨w.heap.size, 2, none⟩ = some (.slice pz sh.length cz) := HS0.out.cell 2
  go_enter Tryz.func54, Tryz.ntmps54
  go_upto_region 1 with (fail)
  rw [← hwa]
  clear hwa
  go_wp2_with (at_builtin; refine wpList_append_row rfl (.const (.slice none 0 0)) (.tmp 9) 48 rfl w.heap.size 137 i0 _ 2 16 Tryz.underlying48 hi hz0 hz1 hz2 rfl (by decide) _ _ _ rfl (World.ownsRow_nil wa _ _ _) lo _ _ _ rfl hE0 (zCells_one _) (by unfold maxLen; omega) (by omega) hx0 ?_)
  intro v' w1 hown hgrow hat
  have hown : RowZ w.heap.size w1 v' sh := by simpa [RowZ] using hown
  have hgrow : wa.grownBy w1 none := hgrow
  have HS1 := (Sofar.refl HD0.out).grown0 hgrow
  have B1 := HS1.blk HS0.out hSb
  have R1 := HS1.blk HR0.out hRb
  have K1 := but_then HK0.out HS1.but HK0.out.size
  have D1 := HS1.dice
  obtain ⟨p1, c1, hv⟩ := ownsRow_len hown
  subst hv
  have f0 : w1.cell? ⟨w.heap.size, 2, none⟩ = some (.slice pz sh.length cz) := B1.cell 2
  have z0 := B1.frozen 2
  have HB2 := Lib.hid (show Blk w.heap.size #[.string n0, .int .i64 v0, .slice p1 sh.length c1] 50 _ from B1.set 2 (.slice p1 sh.length c1))
  have HR2 := Lib.hid (R1.set_other (show w.heap.size + 1 ≠ w.heap.size by omega) 2 (.slice p1 sh.length c1))
  have HE2 := Lib.hid (show RowZ w.heap.size _ _ sh from row_set hown B1 (by decide) 2 (.slice p1 sh.length c1))
  have HD2 := Lib.hid (dice_set (i := 2) (u := .slice p1 sh.length c1) D1 hblt)
  have HK2 := Lib.hid (but_set (i := 2) (u := .slice p1 sh.length c1) K1 (Nat.le_refl _))
  clear hown hgrow hat HS1 B1 R1 K1 D1 HS0 HR0 HK0 HD0 hE0 hx0 l2 hE
  go_upto_region 2 with (fail)
  clear f0 z0
  obtain ⟨w2, hw2⟩ : ∃ w2, w2 = w1.setCell ⟨w.heap.size, 2, none⟩ (.slice p1 sh.length c1) := ⟨_, rfl⟩
  rw [← hw2] at HB2 HR2 HE2 HD2 HK2 ⊢
  clear hw2
  have f2 : w2.cell? ⟨w.heap.size, 2, none⟩ = some (.slice p1 sh.length c1) := HB2.out.cell 2
  obtain ⟨L, hL⟩ : ∃ L, L = sh.length := ⟨_, rfl⟩
  rw [← hL] at f2 HB2 HE2 hl ⊢
  have HL := Lib.hid hL
  clear hL
  have hlq : (L : Int) ≤ 10 := by omega
  by_cases h0 : L = 0
  · subst h0
    have hbB : b < w2.heap.size := HD2.out.lt
    have HD0 := HD2
    clear HD2
    go_wp2_with fail
    refine wp_region_tail 8 (by kernel_rfl) (fun listed a x => ∃ (l0 l1 l2 l3 l4 l5 l6 l7 : Bool) (t17 t18 t19 t20 t21 t22 t23 t24 : Value), listed = #[l0, l1, l2, l3, l4, l5, l6, l7, false, false, false, false] ∧ a = ⟨(.pointer (some ⟨b, 0, none⟩) :: .agg #[.string n0, .int .i64 v0, .slice pz 0 cz] :: undef :: .pointer (some ⟨w.heap.size, 0, none⟩) :: .pointer (some ⟨w.heap.size + 1, 0, none⟩) :: .int .i64 0 :: undef :: undef :: .pointer (some ⟨w.heap.size, 2, none⟩) :: .slice pz 0 cz :: .slice p1 0 c1 :: .pointer (some ⟨w.heap.size, 2, none⟩) :: .pointer (some ⟨w.heap.size, 2, none⟩) :: .slice p1 0 c1 :: .int .i64 0 :: .int .i64 0 :: .bool true :: t17 :: t18 :: t19 :: t20 :: t21 :: t22 :: t23 :: t24 :: undef :: undef :: undef :: undef :: undef :: undef :: undef :: undef :: undef :: undef :: undef :: undef :: undef :: undef :: undef :: undef :: undef :: undef :: undef :: undef :: undef :: undef :: undef :: undef :: undef :: undef :: undef :: undef :: undef :: undef :: undef :: undef :: undef :: undef :: undef :: undef :: undef :: undef :: undef :: undef :: undef :: undef :: undef :: undef :: undef :: undef :: undef :: undef :: undef :: undef :: undef :: undef :: undef :: undef :: undef :: undef :: undef :: undef :: undef :: undef :: undef :: undef :: undef :: undef :: undef :: undef :: undef :: undef :: undef :: undef :: undef :: undef :: undef :: undef :: undef :: undef :: undef :: undef :: undef :: undef :: undef :: undef :: undef :: undef :: undef :: []).toArray, []⟩ ∧ Hid (l0 = true → l3 = false → ∃ (g : Nat), t17 = .slice (some ⟨g, 0, none⟩) 4 4 ∧ w2.heap.size ≤ g ∧ Blk g #[.int .i64 (-1), .int .i64 0, .int .i64 52595999, .int .i64 52596000] 3 x) ∧ Hid (l1 = true → t18 = .pointer (some ⟨b, 0, none⟩)) ∧ Hid (l2 = true → ∃ (n : Int), t19 = .int .i64 n ∧ 0 ≤ n ∧ n ≤ 3) ∧ Hid (l3 = true → l4 = false → ∃ (g : Nat) (k : Nat), t20 = .pointer (some ⟨g, k, none⟩) ∧ k < 4 ∧ w2.heap.size ≤ g ∧ Blk g #[.int .i64 (-1), .int .i64 0, .int .i64 52595999, .int .i64 52596000] 3 x) ∧ Hid (l4 = true → ∃ (n : Int), t21 = .int .i64 n ∧ (-1) ≤ n ∧ n ≤ 52596000) ∧ Hid (l5 = true → t22 = .pointer (some ⟨w.heap.size, 1, none⟩)) ∧ Hid (l6 = true → t23 = .int .i64 v0) ∧ Hid (l7 = true → ∃ (n : Int), t24 = .int .i64 n) ∧ Hid (Sofar b w2 x)) (by decide) (by kernel_rfl) (by kernel_rfl) ?_ ?_ ?_ ?_
    · exact ⟨false, false, false, false, false, false, false, false, _, _, _, _, _, _, _, _, rfl, rfl, Lib.hid (fun h => by cases h), Lib.hid (fun h => by cases h), Lib.hid (fun h => by cases h), Lib.hid (fun h => by cases h), Lib.hid (fun h => by cases h), Lib.hid (fun h => by cases h), Lib.hid (fun h => by cases h), Lib.hid (fun h => by cases h), Lib.hid (Sofar.start HD0.out)⟩
    · intro listed a x hj
      obtain ⟨l0, hj⟩ := hj
      obtain ⟨l1, hj⟩ := hj
      obtain ⟨l2, hj⟩ := hj
      obtain ⟨l3, hj⟩ := hj
      obtain ⟨l4, hj⟩ := hj
      obtain ⟨l5, hj⟩ := hj
      obtain ⟨l6, hj⟩ := hj
      obtain ⟨l7, hj⟩ := hj
      obtain ⟨t17, hj⟩ := hj
      obtain ⟨t18, hj⟩ := hj
      obtain ⟨t19, hj⟩ := hj
      obtain ⟨t20, hj⟩ := hj
      obtain ⟨t21, hj⟩ := hj
      obtain ⟨t22, hj⟩ := hj
      obtain ⟨t23, hj⟩ := hj
      obtain ⟨t24, hj⟩ := hj
      obtain ⟨h1, -⟩ := hj
      subst h1
      exact ⟨rfl, fun k h1 h2 => by (have h2 : k < 12 := h2); rcases (show k = 8 ∨ k = 9 ∨ k = 10 ∨ k = 11 by omega) with rfl | rfl | rfl | rfl <;> rfl⟩
    · intro listed a x i hj hlt hu haf
      obtain ⟨l0, hj⟩ := hj
      obtain ⟨l1, hj⟩ := hj
      obtain ⟨l2, hj⟩ := hj
      obtain ⟨l3, hj⟩ := hj
      obtain ⟨l4, hj⟩ := hj
      obtain ⟨l5, hj⟩ := hj
      obtain ⟨l6, hj⟩ := hj
      obtain ⟨l7, hj⟩ := hj
      obtain ⟨t17, hj⟩ := hj
      obtain ⟨t18, hj⟩ := hj
      obtain ⟨t19, hj⟩ := hj
      obtain ⟨t20, hj⟩ := hj
      obtain ⟨t21, hj⟩ := hj
      obtain ⟨t22, hj⟩ := hj
      obtain ⟨t23, hj⟩ := hj
      obtain ⟨t24, hj⟩ := hj
      obtain ⟨hl_, hj⟩ := hj
      obtain ⟨ha_, hj⟩ := hj
      obtain ⟨H0, hj⟩ := hj
      obtain ⟨H1, hj⟩ := hj
      obtain ⟨H2, hj⟩ := hj
      obtain ⟨H3, hj⟩ := hj
      obtain ⟨H4, hj⟩ := hj
      obtain ⟨H5, hj⟩ := hj
      obtain ⟨H6, hj⟩ := hj
      obtain ⟨H7, hj⟩ := hj
      have HS := hj
      clear hj
      subst hl_
      subst ha_
      rcases (show ∀ i : Nat, i < 8 → (i = 0 ∨ i = 1 ∨ i = 2 ∨ i = 3 ∨ i = 4 ∨ i = 5 ∨ i = 6 ∨ i = 7) by decide) i hlt with rfl | rfl | rfl | rfl | rfl | rfl | rfl | rfl
      · have haf := haf _ rfl
        clear haf
        have hu : l0 = false := hu
        refine wpOp_of_list_any rfl fun QQ hQ => ?_
        have hQQ := Lib.hid hQ
        clear hQ
        simp only [List.getElem_toArray, List.getElem_cons_zero]
        go_wp2_with fail
        exact hQQ.out _ _ ⟨true, l1, l2, l3, l4, l5, l6, l7, _, _, _, _, _, _, _, _, rfl, rfl, Lib.hid (fun _ _ => ⟨_, rfl, HS.out.but.size, Blk.new x _ _⟩), H1, H2, Lib.hid (fun h h2 => (by obtain ⟨g, k, e, c0, c1, c2⟩ := H3.out h h2; exact ⟨g, k, e, c0, c1, ((Kept.alloc _ x _) _ _ _ c1 c2)⟩)), H4, H5, H6, H7, Lib.hid (HS.out.alloc _)⟩
      · have haf := haf _ rfl
        clear haf
        have hu : l1 = false := hu
        refine wpOp_of_list_any rfl fun QQ hQ => ?_
        have hQQ := Lib.hid hQ
        clear hQ
        simp only [List.getElem_toArray, List.getElem_cons_zero, List.getElem_cons_succ]
        go_wp2_with fail
        exact hQQ.out _ _ ⟨l0, true, l2, l3, l4, l5, l6, l7, _, _, _, _, _, _, _, _, rfl, rfl, H0, Lib.hid (fun _ => rfl), H2, H3, H4, H5, H6, H7, HS⟩
      · have haf := haf _ rfl
        have q1 : l1 = true := haf ⟨1, Go.Ground.data⟩ (by simp) rfl
        clear haf
        have hu : l2 = false := hu
        have e1 := (H1.out q1)
        subst e1
        clear H1
        refine wpOp_of_list_any rfl fun QQ hQ => ?_
        have hQQ := Lib.hid hQ
        clear hQ
        simp only [List.getElem_toArray, List.getElem_cons_zero, List.getElem_cons_succ]
        go_wp2_with fail
        refine (next_any b 4 _ HS.out.dice (by omega) (by omega)).mono ?_
        rintro e x1 ⟨v, rfl, h0, h1, -, hd1, ho1⟩
        have h1 := h1 (by omega)
        have hk := Kept.only ho1 hbB
        have HS1 := Lib.hid (HS.out.only hd1 ho1)
        clear ho1 hd1
        go_wp2_with fail
        exact hQQ.out _ _ ⟨l0, l1, true, l3, l4, l5, l6, l7, _, _, _, _, _, _, _, _, rfl, rfl, Lib.hid (fun h h2 => (by obtain ⟨g, e, c0, c1⟩ := H0.out h h2; exact ⟨g, e, c0, (hk _ _ _ c0 c1)⟩)), Lib.hid (fun _ => rfl), Lib.hid (fun _ => ⟨_, rfl, by omega, by omega⟩), Lib.hid (fun h h2 => (by obtain ⟨g, k, e, c0, c1, c2⟩ := H3.out h h2; exact ⟨g, k, e, c0, c1, (hk _ _ _ c1 c2)⟩)), H4, H5, H6, H7, HS1⟩
      · have haf := haf _ rfl
        have q0 : l0 = true := haf ⟨0, Go.Ground.data⟩ (by simp) rfl
        have q2 : l2 = true := haf ⟨2, Go.Ground.data⟩ (by simp) rfl
        clear haf
        have hu : l3 = false := hu
        obtain ⟨g0, e0, c0_0, c0_1⟩ := (H0.out q0 hu)
        subst e0
        clear H0
        obtain ⟨n2, e2, c2_0, c2_1⟩ := (H2.out q2)
        subst e2
        clear H2
        refine wpOp_of_list_any rfl fun QQ hQ => ?_
        have hQQ := Lib.hid hQ
        clear hQ
        simp only [List.getElem_toArray, List.getElem_cons_zero, List.getElem_cons_succ]
        go_wp2_with fail
        exact hQQ.out _ _ ⟨l0, l1, l2, true, l4, l5, l6, l7, _, _, _, _, _, _, _, _, rfl, rfl, Lib.hid (fun _ h => by cases h), H1, Lib.hid (fun _ => ⟨n2, rfl, c2_0, c2_1⟩), Lib.hid (fun _ _ => ⟨_, _, rfl, by omega, by omega, by assumption⟩), H4, H5, H6, H7, HS⟩
      · have haf := haf _ rfl
        have q3 : l3 = true := haf ⟨3, Go.Ground.data⟩ (by simp) rfl
        clear haf
        have hu : l4 = false := hu
        obtain ⟨g3, k3, e3, c3_0, c3_1, c3_2⟩ := (H3.out q3 hu)
        subst e3
        clear H3
        obtain ⟨v, hv, hP⟩ : ∃ v, x.cell? ⟨g3, k3, none⟩ = some v ∧ (∃ (n : Int), v = .int .i64 n ∧ (-1) ≤ n ∧ n ≤ 52596000) := by
          rcases (show k3 = 0 ∨ k3 = 1 ∨ k3 = 2 ∨ k3 = 3 by omega) with rfl | rfl | rfl | rfl
          · exact ⟨_, c3_2.cell 0, _, rfl, by first | omega | decide, by first | omega | decide⟩
          · exact ⟨_, c3_2.cell 1, _, rfl, by first | omega | decide, by first | omega | decide⟩
          · exact ⟨_, c3_2.cell 2, _, rfl, by first | omega | decide, by first | omega | decide⟩
          · exact ⟨_, c3_2.cell 3, _, rfl, by first | omega | decide, by first | omega | decide⟩
        obtain ⟨y0, rfl, d0, d1⟩ := hP
        refine wpOp_of_list_any rfl fun QQ hQ => ?_
        have hQQ := Lib.hid hQ
        clear hQ
        simp only [List.getElem_toArray, List.getElem_cons_zero, List.getElem_cons_succ]
        go_wp2_with fail
        exact hQQ.out _ _ ⟨l0, l1, l2, l3, true, l5, l6, l7, _, _, _, _, _, _, _, _, rfl, rfl, H0, H1, H2, Lib.hid (fun _ h => by cases h), Lib.hid (fun _ => ⟨_, rfl, by omega, by omega⟩), H5, H6, H7, HS⟩
      · have haf := haf _ rfl
        clear haf
        have hu : l5 = false := hu
        refine wpOp_of_list_any rfl fun QQ hQ => ?_
        have hQQ := Lib.hid hQ
        clear hQ
        simp only [List.getElem_toArray, List.getElem_cons_zero, List.getElem_cons_succ]
        go_wp2_with fail
        exact hQQ.out _ _ ⟨l0, l1, l2, l3, l4, true, l6, l7, _, _, _, _, _, _, _, _, rfl, rfl, H0, H1, H2, H3, H4, Lib.hid (fun _ => rfl), H6, H7, HS⟩
      · have haf := haf _ rfl
        have q5 : l5 = true := haf ⟨5, Go.Ground.data⟩ (by simp) rfl
        clear haf
        have hu : l6 = false := hu
        have e5 := (H5.out q5)
        subst e5
        clear H5
        have hc : x.cell? ⟨w.heap.size, 1, none⟩ = some (.int .i64 v0) := (HS.out.blk HB2.out hSb).cell 1
        refine wpOp_of_list_any rfl fun QQ hQ => ?_
        have hQQ := Lib.hid hQ
        clear hQ
        simp only [List.getElem_toArray, List.getElem_cons_zero, List.getElem_cons_succ]
        go_wp2_with fail
        exact hQQ.out _ _ ⟨l0, l1, l2, l3, l4, l5, true, l7, _, _, _, _, _, _, _, _, rfl, rfl, H0, H1, H2, H3, H4, Lib.hid (fun _ => rfl), Lib.hid (fun _ => rfl), H7, HS⟩
      · have haf := haf _ rfl
        have q6 : l6 = true := haf ⟨6, Go.Ground.data⟩ (by simp) rfl
        clear haf
        have hu : l7 = false := hu
        have e6 := (H6.out q6)
        subst e6
        clear H6
        refine wpOp_of_list_any rfl fun QQ hQ => ?_
        have hQQ := Lib.hid hQ
        clear hQ
        simp only [List.getElem_toArray, List.getElem_cons_zero, List.getElem_cons_succ]
        go_wp2_with fail
        exact hQQ.out _ _ ⟨l0, l1, l2, l3, l4, l5, l6, true, _, _, _, _, _, _, _, _, rfl, rfl, H0, H1, H2, H3, H4, H5, Lib.hid (fun _ => rfl), Lib.hid (fun _ => ⟨_, rfl⟩), HS⟩
    · intro listed a x hj hall
      obtain ⟨l0, hj⟩ := hj
      obtain ⟨l1, hj⟩ := hj
      obtain ⟨l2, hj⟩ := hj
      obtain ⟨l3, hj⟩ := hj
      obtain ⟨l4, hj⟩ := hj
      obtain ⟨l5, hj⟩ := hj
      obtain ⟨l6, hj⟩ := hj
      obtain ⟨l7, hj⟩ := hj
      obtain ⟨t17, hj⟩ := hj
      obtain ⟨t18, hj⟩ := hj
      obtain ⟨t19, hj⟩ := hj
      obtain ⟨t20, hj⟩ := hj
      obtain ⟨t21, hj⟩ := hj
      obtain ⟨t22, hj⟩ := hj
      obtain ⟨t23, hj⟩ := hj
      obtain ⟨t24, hj⟩ := hj
      obtain ⟨hl_, hj⟩ := hj
      obtain ⟨ha_, hj⟩ := hj
      obtain ⟨H0, hj⟩ := hj
      obtain ⟨H1, hj⟩ := hj
      obtain ⟨H2, hj⟩ := hj
      obtain ⟨H3, hj⟩ := hj
      obtain ⟨H4, hj⟩ := hj
      obtain ⟨H5, hj⟩ := hj
      obtain ⟨H6, hj⟩ := hj
      obtain ⟨H7, hj⟩ := hj
      have HS := hj
      clear hj
      subst hl_
      subst ha_
      have q4 : l4 = true := hall 4 (by omega)
      have q7 : l7 = true := hall 7 (by omega)
      clear hall
      obtain ⟨n4, e4, c4_0, c4_1⟩ := (H4.out q4)
      subst e4
      obtain ⟨n7, e7⟩ := (H7.out q7)
      subst e7
      have B3 := HS.out.blk HB2.out hSb
      have R3 := HS.out.blk HR2.out hRb
      have K3 := but_then HK2.out HS.out.but HK2.out.size
      have hsx := K3.size
      have g2 : (x.alloc (.cells #[.int .i64 n4, .int .i64 n7] 137)).cell? ⟨w.heap.size, 2, none⟩ = some (.slice p1 0 c1) := (B3.alloc (.cells #[.int .i64 n4, .int .i64 n7] 137)).cell 2
      have z2 := (B3.alloc (.cells #[.int .i64 n4, .int .i64 n7] 137)).frozen 2
      have B4 := (B3.alloc (.cells #[.int .i64 n4, .int .i64 n7] 137)).set 2 (.slice (some ⟨x.heap.size, 0, none⟩) 1 1)
      have R4 := (R3.alloc (.cells #[.int .i64 n4, .int .i64 n7] 137)).set_other (show w.heap.size + 1 ≠ w.heap.size by omega) 2 (.slice (some ⟨x.heap.size, 0, none⟩) 1 1)
      have K4 := but_set (i := 2) (u := .slice (some ⟨x.heap.size, 0, none⟩) 1 1) (but_alloc K3 hsx (.cells #[.int .i64 n4, .int .i64 n7] 137)) (Nat.le_refl w.heap.size)
      have D4 := dice_set (i := 2) (u := .slice (some ⟨x.heap.size, 0, none⟩) 1 1) (dice_alloc HS.out.dice (.cells #[.int .i64 n4, .int .i64 n7] 137)) hblt
      have E4 : RowZ w.heap.size _ (.slice (some ⟨x.heap.size, 0, none⟩) 1 1) [(n4, n7)] := row_set (show (x.alloc (.cells #[.int .i64 n4, .int .i64 n7] 137)).ownsRow w.heap.size 137 2 (.slice (some ⟨x.heap.size, 0, none⟩) 1 1) 1 (zCells [(n4, n7)]) from ⟨rfl, .inr ⟨x.heap.size, 1, #[.int .i64 n4, .int .i64 n7], rfl, hsx, heap_alloc_new x _, Nat.le_refl _, by decide, rfl, rfl⟩⟩) (B3.alloc (.cells #[.int .i64 n4, .int .i64 n7] 137)) (by decide) 2 (.slice (some ⟨x.heap.size, 0, none⟩) 1 1)
      have HB4 := Lib.hid B4
      have HR4 := Lib.hid R4
      have HK4 := Lib.hid K4
      have HD4 := Lib.hid D4
      have HE4 := Lib.hid E4
      clear B3 R3 K3 B4 R4 K4 D4 E4
      refine tail_any (fun a x => ∃ (t17 t18 t19 t20 t21 t22 t23 t24 t25 t26 t27 : Value), a = ⟨(.pointer (some ⟨b, 0, none⟩) :: .agg #[.string n0, .int .i64 v0, .slice pz 0 cz] :: undef :: .pointer (some ⟨w.heap.size, 0, none⟩) :: .pointer (some ⟨w.heap.size + 1, 0, none⟩) :: .int .i64 0 :: undef :: undef :: .pointer (some ⟨w.heap.size, 2, none⟩) :: .slice pz 0 cz :: .slice p1 0 c1 :: .pointer (some ⟨w.heap.size, 2, none⟩) :: .pointer (some ⟨w.heap.size, 2, none⟩) :: .slice p1 0 c1 :: .int .i64 0 :: .int .i64 0 :: .bool true :: t17 :: t18 :: t19 :: t20 :: t21 :: t22 :: t23 :: t24 :: t25 :: t26 :: t27 :: undef :: undef :: undef :: undef :: undef :: undef :: undef :: undef :: undef :: undef :: undef :: undef :: undef :: undef :: undef :: undef :: undef :: undef :: undef :: undef :: undef :: undef :: undef :: undef :: undef :: undef :: undef :: undef :: undef :: undef :: undef :: undef :: undef :: undef :: undef :: undef :: undef :: undef :: undef :: undef :: undef :: undef :: undef :: undef :: undef :: undef :: undef :: undef :: undef :: undef :: undef :: undef :: undef :: undef :: undef :: undef :: undef :: undef :: undef :: undef :: undef :: undef :: undef :: undef :: undef :: undef :: undef :: undef :: undef :: undef :: undef :: undef :: undef :: undef :: undef :: undef :: undef :: undef :: undef :: undef :: undef :: undef :: []).toArray, []⟩ ∧ ∃ (a o : Int) (g : Nat), Blk w.heap.size #[.string n0, .int .i64 v0, .slice (some ⟨g, 0, none⟩) 1 1] 50 x ∧ Blk (w.heap.size + 1) #[.string ⟨#[]⟩, .int .i64 0, .slice none 0 0] 50 x ∧ RowZ w.heap.size x (.slice (some ⟨g, 0, none⟩) 1 1) [(a, o)] ∧ Dice b x ∧ But b w.heap.size w x) ?_ fun QQ hQ => ?_
      · intro a x hpost
        obtain ⟨t17, hpost⟩ := hpost
        obtain ⟨t18, hpost⟩ := hpost
        obtain ⟨t19, hpost⟩ := hpost
        obtain ⟨t20, hpost⟩ := hpost
        obtain ⟨t21, hpost⟩ := hpost
        obtain ⟨t22, hpost⟩ := hpost
        obtain ⟨t23, hpost⟩ := hpost
        obtain ⟨t24, hpost⟩ := hpost
        obtain ⟨t25, hpost⟩ := hpost
        obtain ⟨t26, hpost⟩ := hpost
        obtain ⟨t27, hpost⟩ := hpost
        obtain ⟨ha_, hpost⟩ := hpost
        subst ha_
        obtain ⟨a, o, g, p1_, p2_, p3_, p4_, p5_⟩ := hpost
        have HB := Lib.hid p1_
        have HR := Lib.hid p2_
        have HE := Lib.hid p3_
        have HD := Lib.hid p4_
        have HK := Lib.hid p5_
        clear p1_ p2_ p3_ p4_ p5_ HB2 HR2 HE2 HD0 HK2
        go_upto_region 5 with (fail)
        obtain ⟨c0_, c1_, c2_⟩ := And.intro (HB.out.cell 0) (And.intro (HB.out.cell 1) (HB.out.cell 2))
        simp only [List.getElem?_toArray, List.getElem?_cons_zero, List.getElem?_cons_succ] at c0_ c1_ c2_
        obtain ⟨r0, r1, r2⟩ := And.intro (HR.out.cell 0) (And.intro (HR.out.cell 1) (HR.out.cell 2))
        simp only [List.getElem?_toArray, List.getElem?_cons_zero, List.getElem?_cons_succ] at r0 r1 r2
        obtain ⟨z0, z1, z2⟩ := And.intro (HR.out.frozen 0) (And.intro (HR.out.frozen 1) (HR.out.frozen 2))
        go_wp2_with fail
        obtain ⟨W9, hW, B9, fX, fD, fK⟩ := fill3 HR.out (.string n0) (.int .i64 v0) (.slice (some ⟨g, 0, none⟩) 1 1)
        rw [← hW]
        have E9 := fX _ _ _ _ _ _ (by decide) HE.out
        have D9 := fD b (by omega) HD.out
        have K9 := fK b w.heap.size w (by omega) HK.out
        clear hW fX fD fK r0 r1 r2 c0_ c1_ c2_ z0 z1 z2
        have r0 : W9.cell? ⟨w.heap.size + 1, 0, none⟩ = some (.string n0) := B9.cell 0
        have r1 : W9.cell? ⟨w.heap.size + 1, 1, none⟩ = some (.int .i64 v0) := B9.cell 1
        have r2 : W9.cell? ⟨w.heap.size + 1, 2, none⟩ = some (.slice (some ⟨g, 0, none⟩) 1 1) := B9.cell 2
        refine bodyPost_ret (v := .agg #[.string n0, .int .i64 v0, .slice (some ⟨g, 0, none⟩) 1 1]) (by simp [results, Tryz.results54, go_sem, r0, r1, r2]) rfl ?_
        skip
        exact ⟨n0, v0, (some ⟨g, 0, none⟩), 1, [(a, o)], rfl, by first | omega | (show 0 ≤ 1000; omega), by first | omega | (simp <;> omega), E9, D9, K9⟩
      have hQQ := Lib.hid hQ
      clear hQ
      simp only [List.drop_succ_cons, List.drop_zero]
      go_wp2_with fail
      exact hQQ.out _ _ ⟨_, _, _, _, _, _, _, _, _, _, _, rfl, _, _, _, HB4.out, HR4.out, HE4.out, HD4.out, HK4.out⟩
  · have hne : (((L : Int) == 0) = false) := by simpa using h0
    obtain ⟨g, cg, hform⟩ := row_form HE2.out (by rw [← HL.out]; omega)
    obtain ⟨rfl, rfl⟩ : p1 = some ⟨g, 0, none⟩ ∧ c1 = cg := by
      rw [← HL.out] at hform
      simpa using hform
    clear hform
    obtain ⟨cur, hcur, hg1, hg2⟩ := row_blk (show w2.ownsRow w.heap.size 137 2 (.slice (some ⟨g, 0, none⟩) sh.length c1) sh.length (zCells sh) from by rw [← HL.out]; rw [HL.out]; have := HE2.out; rw [HL.out] at this; exact this)
    have hgb : g ≠ b := by omega
    have hbB : b < w2.heap.size := HD2.out.lt
    have HD0 := HD2
    clear HD2
    go_wp2_with fail
    refine wp_region_tail 5 (by kernel_rfl) (fun listed a x => ∃ (l0 l1 l2 l3 l4 : Bool) (t29 t30 t31 t32 t33 : Value), listed = #[l0, l1, l2, l3, l4, false, false] ∧ a = ⟨(.pointer (some ⟨b, 0, none⟩) :: .agg #[.string n0, .int .i64 v0, .slice pz L cz] :: undef :: .pointer (some ⟨w.heap.size, 0, none⟩) :: .pointer (some ⟨w.heap.size + 1, 0, none⟩) :: .int .i64 L :: undef :: undef :: .pointer (some ⟨w.heap.size, 2, none⟩) :: .slice pz L cz :: .slice (some ⟨g, 0, none⟩) L c1 :: .pointer (some ⟨w.heap.size, 2, none⟩) :: .pointer (some ⟨w.heap.size, 2, none⟩) :: .slice (some ⟨g, 0, none⟩) L c1 :: .int .i64 L :: .int .i64 L :: .bool false :: undef :: undef :: undef :: undef :: undef :: undef :: undef :: undef :: undef :: undef :: undef :: undef :: t29 :: t30 :: t31 :: t32 :: t33 :: undef :: undef :: undef :: undef :: undef :: undef :: undef :: undef :: undef :: undef :: undef :: undef :: undef :: undef :: undef :: undef :: undef :: undef :: undef :: undef :: undef :: undef :: undef :: undef :: undef :: undef :: undef :: undef :: undef :: undef :: undef :: undef :: undef :: undef :: undef :: undef :: undef :: undef :: undef :: undef :: undef :: undef :: undef :: undef :: undef :: undef :: undef :: undef :: undef :: undef :: undef :: undef :: undef :: undef :: undef :: undef :: undef :: undef :: undef :: undef :: undef :: undef :: undef :: undef :: undef :: undef :: undef :: undef :: undef :: undef :: undef :: undef :: undef :: undef :: undef :: undef :: []).toArray, []⟩ ∧ Hid (l0 = true → t29 = .pointer (some ⟨w.heap.size, 2, none⟩)) ∧ Hid (l1 = true → t30 = .slice (some ⟨g, 0, none⟩) L c1) ∧ Hid (l2 = true → t31 = .pointer (some ⟨b, 0, none⟩)) ∧ Hid (l3 = true → t32 = .int .i64 L) ∧ Hid (l4 = true → ∃ (n : Int), t33 = .int .i64 n ∧ 0 ≤ n ∧ n < L) ∧ Hid (Sofar b w2 x)) (by decide) (by kernel_rfl) (by kernel_rfl) ?_ ?_ ?_ ?_
    · exact ⟨false, false, false, false, false, _, _, _, _, _, rfl, rfl, Lib.hid (fun h => by cases h), Lib.hid (fun h => by cases h), Lib.hid (fun h => by cases h), Lib.hid (fun h => by cases h), Lib.hid (fun h => by cases h), Lib.hid (Sofar.start HD0.out)⟩
    · intro listed a x hj
      obtain ⟨l0, hj⟩ := hj
      obtain ⟨l1, hj⟩ := hj
      obtain ⟨l2, hj⟩ := hj
      obtain ⟨l3, hj⟩ := hj
      obtain ⟨l4, hj⟩ := hj
      obtain ⟨t29, hj⟩ := hj
      obtain ⟨t30, hj⟩ := hj
      obtain ⟨t31, hj⟩ := hj
      obtain ⟨t32, hj⟩ := hj
      obtain ⟨t33, hj⟩ := hj
      obtain ⟨h1, -⟩ := hj
      subst h1
      exact ⟨rfl, fun k h1 h2 => by (have h2 : k < 7 := h2); rcases (show k = 5 ∨ k = 6 by omega) with rfl | rfl <;> rfl⟩
    · intro listed a x i hj hlt hu haf
      obtain ⟨l0, hj⟩ := hj
      obtain ⟨l1, hj⟩ := hj
      obtain ⟨l2, hj⟩ := hj
      obtain ⟨l3, hj⟩ := hj
      obtain ⟨l4, hj⟩ := hj
      obtain ⟨t29, hj⟩ := hj
      obtain ⟨t30, hj⟩ := hj
      obtain ⟨t31, hj⟩ := hj
      obtain ⟨t32, hj⟩ := hj
      obtain ⟨t33, hj⟩ := hj
      obtain ⟨hl_, hj⟩ := hj
      obtain ⟨ha_, hj⟩ := hj
      obtain ⟨H0, hj⟩ := hj
      obtain ⟨H1, hj⟩ := hj
      obtain ⟨H2, hj⟩ := hj
      obtain ⟨H3, hj⟩ := hj
      obtain ⟨H4, hj⟩ := hj
      have HS := hj
      clear hj
      subst hl_
      subst ha_
      rcases (show ∀ i : Nat, i < 5 → (i = 0 ∨ i = 1 ∨ i = 2 ∨ i = 3 ∨ i = 4) by decide) i hlt with rfl | rfl | rfl | rfl | rfl
      · have haf := haf _ rfl
        clear haf
        have hu : l0 = false := hu
        refine wpOp_of_list_any rfl fun QQ hQ => ?_
        have hQQ := Lib.hid hQ
        clear hQ
        simp only [List.getElem_toArray, List.getElem_cons_zero]
        go_wp2_with fail
        exact hQQ.out _ _ ⟨true, l1, l2, l3, l4, _, _, _, _, _, rfl, rfl, Lib.hid (fun _ => rfl), H1, H2, H3, H4, HS⟩
      · have haf := haf _ rfl
        have q0 : l0 = true := haf ⟨0, Go.Ground.data⟩ (by simp) rfl
        clear haf
        have hu : l1 = false := hu
        have e0 := (H0.out q0)
        subst e0
        clear H0
        have hc : x.cell? ⟨w.heap.size, 2, none⟩ = some (.slice (some ⟨g, 0, none⟩) L c1) := (HS.out.blk HB2.out hSb).cell 2
        refine wpOp_of_list_any rfl fun QQ hQ => ?_
        have hQQ := Lib.hid hQ
        clear hQ
        simp only [List.getElem_toArray, List.getElem_cons_zero, List.getElem_cons_succ]
        go_wp2_with fail
        exact hQQ.out _ _ ⟨l0, true, l2, l3, l4, _, _, _, _, _, rfl, rfl, Lib.hid (fun _ => rfl), Lib.hid (fun _ => rfl), H2, H3, H4, HS⟩
      · have haf := haf _ rfl
        clear haf
        have hu : l2 = false := hu
        refine wpOp_of_list_any rfl fun QQ hQ => ?_
        have hQQ := Lib.hid hQ
        clear hQ
        simp only [List.getElem_toArray, List.getElem_cons_zero, List.getElem_cons_succ]
        go_wp2_with fail
        exact hQQ.out _ _ ⟨l0, l1, true, l3, l4, _, _, _, _, _, rfl, rfl, H0, H1, Lib.hid (fun _ => rfl), H3, H4, HS⟩
      · have haf := haf _ rfl
        clear haf
        have hu : l3 = false := hu
        refine wpOp_of_list_any rfl fun QQ hQ => ?_
        have hQQ := Lib.hid hQ
        clear hQ
        simp only [List.getElem_toArray, List.getElem_cons_zero, List.getElem_cons_succ]
        go_wp2_with fail
        exact hQQ.out _ _ ⟨l0, l1, l2, true, l4, _, _, _, _, _, rfl, rfl, H0, H1, H2, Lib.hid (fun _ => rfl), H4, HS⟩
      · have haf := haf _ rfl
        have q2 : l2 = true := haf ⟨2, Go.Ground.data⟩ (by simp) rfl
        have q3 : l3 = true := haf ⟨3, Go.Ground.data⟩ (by simp) rfl
        clear haf
        have hu : l4 = false := hu
        have e2 := (H2.out q2)
        subst e2
        clear H2
        have e3 := (H3.out q3)
        subst e3
        clear H3
        refine wpOp_of_list_any rfl fun QQ hQ => ?_
        have hQQ := Lib.hid hQ
        clear hQ
        simp only [List.getElem_toArray, List.getElem_cons_zero, List.getElem_cons_succ]
        go_wp2_with fail
        refine (next_any b L _ HS.out.dice (by omega) (by omega)).mono ?_
        rintro e x1 ⟨v, rfl, h0_, h1, -, hd1, ho1⟩
        have h1 := h1 (by omega)
        have hk := Kept.only ho1 hbB
        have HS1 := Lib.hid (HS.out.only hd1 ho1)
        clear ho1 hd1
        go_wp2_with fail
        exact hQQ.out _ _ ⟨l0, l1, l2, l3, true, _, _, _, _, _, rfl, rfl, H0, H1, Lib.hid (fun _ => rfl), Lib.hid (fun _ => rfl), Lib.hid (fun _ => ⟨_, rfl, by omega, by omega⟩), HS1⟩
    · intro listed a x hj hall
      obtain ⟨l0, hj⟩ := hj
      obtain ⟨l1, hj⟩ := hj
      obtain ⟨l2, hj⟩ := hj
      obtain ⟨l3, hj⟩ := hj
      obtain ⟨l4, hj⟩ := hj
      obtain ⟨t29, hj⟩ := hj
      obtain ⟨t30, hj⟩ := hj
      obtain ⟨t31, hj⟩ := hj
      obtain ⟨t32, hj⟩ := hj
      obtain ⟨t33, hj⟩ := hj
      obtain ⟨hl_, hj⟩ := hj
      obtain ⟨ha_, hj⟩ := hj
      obtain ⟨H0, hj⟩ := hj
      obtain ⟨H1, hj⟩ := hj
      obtain ⟨H2, hj⟩ := hj
      obtain ⟨H3, hj⟩ := hj
      obtain ⟨H4, hj⟩ := hj
      have HS := hj
      clear hj
      subst hl_
      subst ha_
      have q1 : l1 = true := hall 1 (by omega)
      have q4 : l4 = true := hall 4 (by omega)
      clear hall
      have e1 := (H1.out q1)
      subst e1
      obtain ⟨n4, e4, c4_0, c4_1⟩ := (H4.out q4)
      subst e4
      refine tail_any (fun a x => ∃ (t6 t29 t30 t31 t32 t33 t34 : Value), a = ⟨(.pointer (some ⟨b, 0, none⟩) :: .agg #[.string n0, .int .i64 v0, .slice pz L cz] :: undef :: .pointer (some ⟨w.heap.size, 0, none⟩) :: .pointer (some ⟨w.heap.size + 1, 0, none⟩) :: .int .i64 L :: t6 :: undef :: .pointer (some ⟨w.heap.size, 2, none⟩) :: .slice pz L cz :: .slice (some ⟨g, 0, none⟩) L c1 :: .pointer (some ⟨w.heap.size, 2, none⟩) :: .pointer (some ⟨w.heap.size, 2, none⟩) :: .slice (some ⟨g, 0, none⟩) L c1 :: .int .i64 L :: .int .i64 L :: .bool false :: undef :: undef :: undef :: undef :: undef :: undef :: undef :: undef :: undef :: undef :: undef :: undef :: t29 :: t30 :: t31 :: t32 :: t33 :: t34 :: undef :: undef :: undef :: undef :: undef :: undef :: undef :: undef :: undef :: undef :: undef :: undef :: undef :: undef :: undef :: undef :: undef :: undef :: undef :: undef :: undef :: undef :: undef :: undef :: undef :: undef :: undef :: undef :: undef :: undef :: undef :: undef :: undef :: undef :: undef :: undef :: undef :: undef :: undef :: undef :: undef :: undef :: undef :: undef :: undef :: undef :: undef :: undef :: undef :: undef :: undef :: undef :: undef :: undef :: undef :: undef :: undef :: undef :: undef :: undef :: undef :: undef :: undef :: undef :: undef :: undef :: undef :: undef :: undef :: undef :: undef :: undef :: undef :: undef :: undef :: []).toArray, []⟩ ∧ ∃ k : Nat, t6 = .pointer (some ⟨g, k * 2, none⟩) ∧ k < L ∧ Sofar b w2 x) ?_ fun QQ hQ => ?_
      · intro a x hpost
        obtain ⟨t6, hpost⟩ := hpost
        obtain ⟨t29, hpost⟩ := hpost
        obtain ⟨t30, hpost⟩ := hpost
        obtain ⟨t31, hpost⟩ := hpost
        obtain ⟨t32, hpost⟩ := hpost
        obtain ⟨t33, hpost⟩ := hpost
        obtain ⟨t34, hpost⟩ := hpost
        obtain ⟨ha_, hpost⟩ := hpost
        subst ha_
        obtain ⟨k, rfl, hk, hS_⟩ := hpost
        have HB3 := Lib.hid (hS_.blk HB2.out hSb)
        have HR3 := Lib.hid (hS_.blk HR2.out hRb)
        have HK3 := Lib.hid (but_then HK2.out hS_.but HK2.out.size)
        have hE3 : RowZ w.heap.size x _ sh := row_but HE2.out hblt hS_.but
        have HD3 := Lib.hid hS_.dice
        have hcur := hcur.but hS_.but hgb
        have hg2 : g < x.heap.size := hcur.lt
        clear hS_ HB2 HR2 HK2 HE2 HD0 hbB
        go_wp2_with fail
        refine (next_any b 5 _ HD3.out (by omega) (by omega)).mono ?_
        rintro e w3 ⟨v, rfl, v0_, v1_, -, hd3, ho3⟩
        have v1_ := v1_ (by omega)
        have HB4 := Lib.hid (HB3.out.only ho3 hSb)
        have HR4 := Lib.hid (HR3.out.only ho3 hRb)
        have HK4 := Lib.hid (but_only HK3.out ho3)
        have HE4 := Lib.hid (show RowZ w.heap.size w3 (.slice (some ⟨g, 0, none⟩) L c1) sh from ownsRow_only hE3 hblt ho3)
        have hcur := hcur.only ho3 hgb
        have hg2 : g < w3.heap.size := hcur.lt
        have HD4 := Lib.hid hd3
        clear HB3 HR3 HK3 hE3 HD3 hd3 ho3
        rcases (show v = 0 ∨ v = 1 ∨ v = 2 ∨ v = 3 ∨ v = 4 by omega) with rfl | rfl | rfl | rfl | rfl
        · have B := HB4.out
          have R := HR4.out
          have E := HE4.out
          have D := HD4.out
          have K := HK4.out
          have c0 : w3.cell? ⟨w.heap.size, 0, none⟩ = some (.string n0) := B.cell 0
          have z0 := B.frozen 0
          have HB := Lib.hid (show Blk w.heap.size #[.string ⟨#[]⟩, .int .i64 v0, .slice (some ⟨g, 0, none⟩) L c1] 50 _ from B.set 0 (.string ⟨#[]⟩))
          have HR := Lib.hid (R.set_other (show w.heap.size + 1 ≠ w.heap.size by omega) 0 (.string ⟨#[]⟩))
          have HE := Lib.hid (show RowZ w.heap.size _ (.slice (some ⟨g, 0, none⟩) L c1) sh from row_set E B (by decide) 0 (.string ⟨#[]⟩))
          have HD := Lib.hid (dice_set (i := 0) (u := .string ⟨#[]⟩) D hblt)
          have HK := Lib.hid (but_set (i := 0) (u := .string ⟨#[]⟩) K (Nat.le_refl _))
          clear B R E D K HB4 HR4 HE4 HD4 HK4
          go_upto_region 20 with (fail)
          clear c0 z0
          obtain ⟨W, hW⟩ : ∃ W, W = w3.setCell ⟨w.heap.size, 0, none⟩ (.string ⟨#[]⟩) := ⟨_, rfl⟩
          rw [← hW] at HB HR HE HD HK ⊢
          clear hW
          obtain ⟨c0_, c1_, c2_⟩ := And.intro (HB.out.cell 0) (And.intro (HB.out.cell 1) (HB.out.cell 2))
          simp only [List.getElem?_toArray, List.getElem?_cons_zero, List.getElem?_cons_succ] at c0_ c1_ c2_
          obtain ⟨r0, r1, r2⟩ := And.intro (HR.out.cell 0) (And.intro (HR.out.cell 1) (HR.out.cell 2))
          simp only [List.getElem?_toArray, List.getElem?_cons_zero, List.getElem?_cons_succ] at r0 r1 r2
          obtain ⟨z0, z1, z2⟩ := And.intro (HR.out.frozen 0) (And.intro (HR.out.frozen 1) (HR.out.frozen 2))
          go_wp2_with fail
          obtain ⟨W9, hW, B9, fX, fD, fK⟩ := fill3 HR.out (.string ⟨#[]⟩) (.int .i64 v0) (.slice (some ⟨g, 0, none⟩) L c1)
          rw [← hW]
          have E9 := fX _ _ _ _ _ _ (by decide) HE.out
          have D9 := fD b (by omega) HD.out
          have K9 := fK b w.heap.size w (by omega) HK.out
          clear hW fX fD fK r0 r1 r2 c0_ c1_ c2_ z0 z1 z2
          have r0 : W9.cell? ⟨w.heap.size + 1, 0, none⟩ = some (.string ⟨#[]⟩) := B9.cell 0
          have r1 : W9.cell? ⟨w.heap.size + 1, 1, none⟩ = some (.int .i64 v0) := B9.cell 1
          have r2 : W9.cell? ⟨w.heap.size + 1, 2, none⟩ = some (.slice (some ⟨g, 0, none⟩) L c1) := B9.cell 2
          refine bodyPost_ret (v := .agg #[.string ⟨#[]⟩, .int .i64 v0, .slice (some ⟨g, 0, none⟩) L c1]) (by simp [results, Tryz.results54, go_sem, r0, r1, r2]) rfl ?_
          obtain rfl := HL.out
          exact ⟨⟨#[]⟩, v0, (some ⟨g, 0, none⟩), c1, sh, rfl, by first | omega | (show 0 ≤ 1000; omega), by first | omega | (simp <;> omega), E9, D9, K9⟩
        · go_wp2_with fail
          have hgb2 : w3.heap.size ≠ b := by have := HD4.out.lt; omega
          have HG1 := Lib.hid (Blk.new w3 #[.int .i64 840, .int .i64 841, .int .i64 (-841)] 3)
          refine (next_any b 3 _ (dice_alloc HD4.out _) (by omega) (by omega)).mono ?_
          rintro e w4 ⟨a, rfl, a0, a1, -, D, ho4⟩
          have a1 := a1 (by omega)
          have hG := HG1.out.only ho4 hgb2
          have B := (HB4.out.alloc (.cells #[.int .i64 840, .int .i64 841, .int .i64 (-841)] 3)).only ho4 hSb
          have R := (HR4.out.alloc (.cells #[.int .i64 840, .int .i64 841, .int .i64 (-841)] 3)).only ho4 hRb
          have E : RowZ w.heap.size w4 (.slice (some ⟨g, 0, none⟩) L c1) sh := ownsRow_only (World.ownsRow.alloc HE4.out (.cells #[.int .i64 840, .int .i64 841, .int .i64 (-841)] 3)) hblt ho4
          have K := but_only (but_alloc HK4.out HK4.out.size (.cells #[.int .i64 840, .int .i64 841, .int .i64 (-841)] 3)) ho4
          obtain ⟨n, hc⟩ : ∃ n, w4.cell? ⟨w3.heap.size, a.toNat, none⟩ = some (.int .i64 n) := by
            rcases (show a = 0 ∨ a = 1 ∨ a = 2 by omega) with rfl | rfl | rfl
            · exact ⟨_, hG.cell 0⟩
            · exact ⟨_, hG.cell 1⟩
            · exact ⟨_, hG.cell 2⟩
          have c1_ : w4.cell? ⟨w.heap.size, 1, none⟩ = some (.int .i64 v0) := B.cell 1
          have z1 := B.frozen 1
          have HB := Lib.hid (show Blk w.heap.size #[.string n0, .int .i64 n, .slice (some ⟨g, 0, none⟩) L c1] 50 _ from B.set 1 (.int .i64 n))
          have HR := Lib.hid (R.set_other (show w.heap.size + 1 ≠ w.heap.size by omega) 1 (.int .i64 n))
          have HE := Lib.hid (show RowZ w.heap.size _ (.slice (some ⟨g, 0, none⟩) L c1) sh from row_set E B (by decide) 1 (.int .i64 n))
          have HD := Lib.hid (dice_set (i := 1) (u := .int .i64 n) D hblt)
          have HK := Lib.hid (but_set (i := 1) (u := .int .i64 n) K (Nat.le_refl _))
          clear B R E D K HB4 HR4 HE4 HD4 HK4 hG HG1 ho4
          go_upto_region 20 with (fail)
          clear c1_ z1 hc
          obtain ⟨W, hW⟩ : ∃ W, W = w4.setCell ⟨w.heap.size, 1, none⟩ (.int .i64 n) := ⟨_, rfl⟩
          rw [← hW] at HB HR HE HD HK ⊢
          clear hW
          obtain ⟨c0_, c1_, c2_⟩ := And.intro (HB.out.cell 0) (And.intro (HB.out.cell 1) (HB.out.cell 2))
          simp only [List.getElem?_toArray, List.getElem?_cons_zero, List.getElem?_cons_succ] at c0_ c1_ c2_
          obtain ⟨r0, r1, r2⟩ := And.intro (HR.out.cell 0) (And.intro (HR.out.cell 1) (HR.out.cell 2))
          simp only [List.getElem?_toArray, List.getElem?_cons_zero, List.getElem?_cons_succ] at r0 r1 r2
          obtain ⟨z0, z1, z2⟩ := And.intro (HR.out.frozen 0) (And.intro (HR.out.frozen 1) (HR.out.frozen 2))
          go_wp2_with fail
          obtain ⟨W9, hW, B9, fX, fD, fK⟩ := fill3 HR.out (.string n0) (.int .i64 n) (.slice (some ⟨g, 0, none⟩) L c1)
          rw [← hW]
          have E9 := fX _ _ _ _ _ _ (by decide) HE.out
          have D9 := fD b (by omega) HD.out
          have K9 := fK b w.heap.size w (by omega) HK.out
          clear hW fX fD fK r0 r1 r2 c0_ c1_ c2_ z0 z1 z2
          have r0 : W9.cell? ⟨w.heap.size + 1, 0, none⟩ = some (.string n0) := B9.cell 0
          have r1 : W9.cell? ⟨w.heap.size + 1, 1, none⟩ = some (.int .i64 n) := B9.cell 1
          have r2 : W9.cell? ⟨w.heap.size + 1, 2, none⟩ = some (.slice (some ⟨g, 0, none⟩) L c1) := B9.cell 2
          refine bodyPost_ret (v := .agg #[.string n0, .int .i64 n, .slice (some ⟨g, 0, none⟩) L c1]) (by simp [results, Tryz.results54, go_sem, r0, r1, r2]) rfl ?_
          obtain rfl := HL.out
          exact ⟨n0, n, (some ⟨g, 0, none⟩), c1, sh, rfl, by first | omega | (show 0 ≤ 1000; omega), by first | omega | (simp <;> omega), E9, D9, K9⟩
        · obtain ⟨a0, hca0⟩ := RowZ.cell (n := L) HE4.out 0 (by have := HL.out; omega)
          obtain ⟨o0, hco0⟩ := RowZ.cell (n := L) HE4.out (k * 2 + 1) (by have := HL.out; omega)
          obtain ⟨a1, hca1⟩ := RowZ.cell (n := L) HE4.out (k * 2) (by have := HL.out; omega)
          have hza := RowZ.frozen (n := L) HE4.out (k * 2)
          have hzo := RowZ.frozen (n := L) HE4.out (k * 2 + 1)
          have hSg : w.heap.size ≠ g := by intro e; subst e; exact absurd (show some (Obj.cells _ 50 (0, 0)) = some (Obj.cells cur 137 (0, 0)) from (show w3.heap[w.heap.size]? = _ from HB4.out).symm.trans hcur) (by simp)
          have hRg : w.heap.size + 1 ≠ g := by intro e; subst e; exact absurd (show some (Obj.cells _ 50 (0, 0)) = some (Obj.cells cur 137 (0, 0)) from (show w3.heap[w.heap.size + 1]? = _ from HR4.out).symm.trans hcur) (by simp)
          have hbg : b < g := by omega
          have hbB : b < w3.heap.size := HD4.out.lt
          have HD0 := HD4
          clear HD4
          have Hca0 := Lib.hid hca0
          have Hco0 := Lib.hid hco0
          have Hca1 := Lib.hid hca1
          clear hca0 hco0 hca1
          go_wp2_with fail
          refine wp_region_tail 10 (by kernel_rfl) (fun listed a x => ∃ (l0 l1 l2 l3 l4 l5 l6 l7 l8 l9 : Bool) (t83 t84 t85 t86 t87 t88 t89 t90 t91 t92 : Value), listed = #[l0, l1, l2, l3, l4, l5, l6, l7, l8, l9, false, false, false] ∧ a = ⟨(.pointer (some ⟨b, 0, none⟩) :: .agg #[.string n0, .int .i64 v0, .slice pz L cz] :: undef :: .pointer (some ⟨w.heap.size, 0, none⟩) :: .pointer (some ⟨w.heap.size + 1, 0, none⟩) :: .int .i64 L :: .pointer (some ⟨g, k * 2, none⟩) :: undef :: .pointer (some ⟨w.heap.size, 2, none⟩) :: .slice pz L cz :: .slice (some ⟨g, 0, none⟩) L c1 :: .pointer (some ⟨w.heap.size, 2, none⟩) :: .pointer (some ⟨w.heap.size, 2, none⟩) :: .slice (some ⟨g, 0, none⟩) L c1 :: .int .i64 L :: .int .i64 L :: .bool false :: undef :: undef :: undef :: undef :: undef :: undef :: undef :: undef :: undef :: undef :: undef :: undef :: t29 :: t30 :: t31 :: t32 :: t33 :: t34 :: .pointer (some ⟨b, 0, none⟩) :: .int .i64 2 :: undef :: undef :: undef :: undef :: undef :: undef :: undef :: undef :: undef :: undef :: undef :: undef :: undef :: undef :: undef :: undef :: undef :: undef :: undef :: undef :: undef :: undef :: undef :: undef :: undef :: undef :: undef :: undef :: undef :: undef :: undef :: undef :: undef :: .bool false :: .bool false :: undef :: .bool false :: .bool false :: undef :: undef :: undef :: undef :: undef :: undef :: .bool true :: .bool true :: t83 :: t84 :: t85 :: t86 :: t87 :: t88 :: t89 :: t90 :: t91 :: t92 :: undef :: undef :: undef :: undef :: undef :: undef :: undef :: undef :: undef :: undef :: undef :: undef :: undef :: undef :: undef :: undef :: undef :: []).toArray, []⟩ ∧ Hid (l0 = true → t83 = .pointer (some ⟨g, k * 2, none⟩)) ∧ Hid (l1 = true → t84 = .pointer (some ⟨w.heap.size, 2, none⟩)) ∧ Hid (l2 = true → t85 = .slice (some ⟨g, 0, none⟩) L c1) ∧ Hid (l3 = true → t86 = .pointer (some ⟨g, 0, none⟩)) ∧ Hid (l4 = true → t87 = .pointer (some ⟨g, 0, none⟩)) ∧ Hid (l5 = true → t88 = .int .i64 a0) ∧ Hid (l6 = true → ∃ (n : Int), t89 = .int .i64 n) ∧ Hid (l7 = true → t90 = .pointer (some ⟨b, 0, none⟩)) ∧ Hid (l8 = true → ∃ (n : Int), t91 = .int .i64 n ∧ 0 ≤ n ∧ n ≤ 3) ∧ Hid (l9 = true → ∃ (n : Int), t92 = .int .i64 n) ∧ Hid (Sofar b w3 x)) (by decide) (by kernel_rfl) (by kernel_rfl) ?_ ?_ ?_ ?_
          · exact ⟨false, false, false, false, false, false, false, false, false, false, _, _, _, _, _, _, _, _, _, _, rfl, rfl, Lib.hid (fun h => by cases h), Lib.hid (fun h => by cases h), Lib.hid (fun h => by cases h), Lib.hid (fun h => by cases h), Lib.hid (fun h => by cases h), Lib.hid (fun h => by cases h), Lib.hid (fun h => by cases h), Lib.hid (fun h => by cases h), Lib.hid (fun h => by cases h), Lib.hid (fun h => by cases h), Lib.hid (Sofar.start HD0.out)⟩
          · intro listed a x hj
            obtain ⟨l0, hj⟩ := hj
            obtain ⟨l1, hj⟩ := hj
            obtain ⟨l2, hj⟩ := hj
            obtain ⟨l3, hj⟩ := hj
            obtain ⟨l4, hj⟩ := hj
            obtain ⟨l5, hj⟩ := hj
            obtain ⟨l6, hj⟩ := hj
            obtain ⟨l7, hj⟩ := hj
            obtain ⟨l8, hj⟩ := hj
            obtain ⟨l9, hj⟩ := hj
            obtain ⟨t83, hj⟩ := hj
            obtain ⟨t84, hj⟩ := hj
            obtain ⟨t85, hj⟩ := hj
            obtain ⟨t86, hj⟩ := hj
            obtain ⟨t87, hj⟩ := hj
            obtain ⟨t88, hj⟩ := hj
            obtain ⟨t89, hj⟩ := hj
            obtain ⟨t90, hj⟩ := hj
            obtain ⟨t91, hj⟩ := hj
            obtain ⟨t92, hj⟩ := hj
            obtain ⟨h1, -⟩ := hj
            subst h1
            exact ⟨rfl, fun k h1 h2 => by (have h2 : k < 13 := h2); rcases (show k = 10 ∨ k = 11 ∨ k = 12 by omega) with rfl | rfl | rfl <;> rfl⟩
          · intro listed a x i hj hlt hu haf
            obtain ⟨l0, hj⟩ := hj
            obtain ⟨l1, hj⟩ := hj
            obtain ⟨l2, hj⟩ := hj
            obtain ⟨l3, hj⟩ := hj
            obtain ⟨l4, hj⟩ := hj
            obtain ⟨l5, hj⟩ := hj
            obtain ⟨l6, hj⟩ := hj
            obtain ⟨l7, hj⟩ := hj
            obtain ⟨l8, hj⟩ := hj
            obtain ⟨l9, hj⟩ := hj
            obtain ⟨t83, hj⟩ := hj
            obtain ⟨t84, hj⟩ := hj
            obtain ⟨t85, hj⟩ := hj
            obtain ⟨t86, hj⟩ := hj
            obtain ⟨t87, hj⟩ := hj
            obtain ⟨t88, hj⟩ := hj
            obtain ⟨t89, hj⟩ := hj
            obtain ⟨t90, hj⟩ := hj
            obtain ⟨t91, hj⟩ := hj
            obtain ⟨t92, hj⟩ := hj
            obtain ⟨hl_, hj⟩ := hj
            obtain ⟨ha_, hj⟩ := hj
            obtain ⟨H0, hj⟩ := hj
            obtain ⟨H1, hj⟩ := hj
            obtain ⟨H2, hj⟩ := hj
            obtain ⟨H3, hj⟩ := hj
            obtain ⟨H4, hj⟩ := hj
            obtain ⟨H5, hj⟩ := hj
            obtain ⟨H6, hj⟩ := hj
            obtain ⟨H7, hj⟩ := hj
            obtain ⟨H8, hj⟩ := hj
            obtain ⟨H9, hj⟩ := hj
            have HS := hj
            clear hj
            subst hl_
            subst ha_
            rcases (show ∀ i : Nat, i < 10 → (i = 0 ∨ i = 1 ∨ i = 2 ∨ i = 3 ∨ i = 4 ∨ i = 5 ∨ i = 6 ∨ i = 7 ∨ i = 8 ∨ i = 9) by decide) i hlt with rfl | rfl | rfl | rfl | rfl | rfl | rfl | rfl | rfl | rfl
            · have haf := haf _ rfl
              clear haf
              have hu : l0 = false := hu
              refine wpOp_of_list_any rfl fun QQ hQ => ?_
              have hQQ := Lib.hid hQ
              clear hQ
              simp only [List.getElem_toArray, List.getElem_cons_zero]
              go_wp2_with fail
              exact hQQ.out _ _ ⟨true, l1, l2, l3, l4, l5, l6, l7, l8, l9, _, _, _, _, _, _, _, _, _, _, rfl, rfl, Lib.hid (fun _ => rfl), H1, H2, H3, H4, H5, H6, H7, H8, H9, HS⟩
            · have haf := haf _ rfl
              clear haf
              have hu : l1 = false := hu
              refine wpOp_of_list_any rfl fun QQ hQ => ?_
              have hQQ := Lib.hid hQ
              clear hQ
              simp only [List.getElem_toArray, List.getElem_cons_zero, List.getElem_cons_succ]
              go_wp2_with fail
              exact hQQ.out _ _ ⟨l0, true, l2, l3, l4, l5, l6, l7, l8, l9, _, _, _, _, _, _, _, _, _, _, rfl, rfl, H0, Lib.hid (fun _ => rfl), H2, H3, H4, H5, H6, H7, H8, H9, HS⟩
            · have haf := haf _ rfl
              have q1 : l1 = true := haf ⟨1, Go.Ground.data⟩ (by simp) rfl
              clear haf
              have hu : l2 = false := hu
              have e1 := (H1.out q1)
              subst e1
              clear H1
              have hc : x.cell? ⟨w.heap.size, 2, none⟩ = some (.slice (some ⟨g, 0, none⟩) L c1) := (HS.out.blk HB4.out hSb).cell 2
              refine wpOp_of_list_any rfl fun QQ hQ => ?_
              have hQQ := Lib.hid hQ
              clear hQ
              simp only [List.getElem_toArray, List.getElem_cons_zero, List.getElem_cons_succ]
              go_wp2_with fail
              exact hQQ.out _ _ ⟨l0, l1, true, l3, l4, l5, l6, l7, l8, l9, _, _, _, _, _, _, _, _, _, _, rfl, rfl, H0, Lib.hid (fun _ => rfl), Lib.hid (fun _ => rfl), H3, H4, H5, H6, H7, H8, H9, HS⟩
            · have haf := haf _ rfl
              have q2 : l2 = true := haf ⟨2, Go.Ground.data⟩ (by simp) rfl
              clear haf
              have hu : l3 = false := hu
              have e2 := (H2.out q2)
              subst e2
              clear H2
              refine wpOp_of_list_any rfl fun QQ hQ => ?_
              have hQQ := Lib.hid hQ
              clear hQ
              simp only [List.getElem_toArray, List.getElem_cons_zero, List.getElem_cons_succ]
              go_wp2_with fail
              exact hQQ.out _ _ ⟨l0, l1, l2, true, l4, l5, l6, l7, l8, l9, _, _, _, _, _, _, _, _, _, _, rfl, rfl, H0, H1, Lib.hid (fun _ => rfl), Lib.hid (fun _ => rfl), H4, H5, H6, H7, H8, H9, HS⟩
            · have haf := haf _ rfl
              have q3 : l3 = true := haf ⟨3, Go.Ground.data⟩ (by simp) rfl
              clear haf
              have hu : l4 = false := hu
              have e3 := (H3.out q3)
              subst e3
              clear H3
              refine wpOp_of_list_any rfl fun QQ hQ => ?_
              have hQQ := Lib.hid hQ
              clear hQ
              simp only [List.getElem_toArray, List.getElem_cons_zero, List.getElem_cons_succ]
              go_wp2_with fail
              exact hQQ.out _ _ ⟨l0, l1, l2, l3, true, l5, l6, l7, l8, l9, _, _, _, _, _, _, _, _, _, _, rfl, rfl, H0, H1, H2, Lib.hid (fun _ => rfl), Lib.hid (fun _ => rfl), H5, H6, H7, H8, H9, HS⟩
            · have haf := haf _ rfl
              have q4 : l4 = true := haf ⟨4, Go.Ground.data⟩ (by simp) rfl
              clear haf
              have hu : l5 = false := hu
              have e4 := (H4.out q4)
              subst e4
              clear H4
              have hc : x.cell? ⟨g, 0, none⟩ = some (.int .i64 a0) := (HS.out.but.cell (p := ⟨g, 0, none⟩) hg2 hgb).trans Hca0.out
              refine wpOp_of_list_any rfl fun QQ hQ => ?_
              have hQQ := Lib.hid hQ
              clear hQ
              simp only [List.getElem_toArray, List.getElem_cons_zero, List.getElem_cons_succ]
              go_wp2_with fail
              exact hQQ.out _ _ ⟨l0, l1, l2, l3, l4, true, l6, l7, l8, l9, _, _, _, _, _, _, _, _, _, _, rfl, rfl, H0, H1, H2, H3, Lib.hid (fun _ => rfl), Lib.hid (fun _ => rfl), H6, H7, H8, H9, HS⟩
            · have haf := haf _ rfl
              have q5 : l5 = true := haf ⟨5, Go.Ground.data⟩ (by simp) rfl
              clear haf
              have hu : l6 = false := hu
              have e5 := (H5.out q5)
              subst e5
              clear H5
              refine wpOp_of_list_any rfl fun QQ hQ => ?_
              have hQQ := Lib.hid hQ
              clear hQ
              simp only [List.getElem_toArray, List.getElem_cons_zero, List.getElem_cons_succ]
              go_wp2_with fail
              exact hQQ.out _ _ ⟨l0, l1, l2, l3, l4, l5, true, l7, l8, l9, _, _, _, _, _, _, _, _, _, _, rfl, rfl, H0, H1, H2, H3, H4, Lib.hid (fun _ => rfl), Lib.hid (fun _ => ⟨_, rfl⟩), H7, H8, H9, HS⟩
            · have haf := haf _ rfl
              clear haf
              have hu : l7 = false := hu
              refine wpOp_of_list_any rfl fun QQ hQ => ?_
              have hQQ := Lib.hid hQ
              clear hQ
              simp only [List.getElem_toArray, List.getElem_cons_zero, List.getElem_cons_succ]
              go_wp2_with fail
              exact hQQ.out _ _ ⟨l0, l1, l2, l3, l4, l5, l6, true, l8, l9, _, _, _, _, _, _, _, _, _, _, rfl, rfl, H0, H1, H2, H3, H4, H5, H6, Lib.hid (fun _ => rfl), H8, H9, HS⟩
            · have haf := haf _ rfl
              have q7 : l7 = true := haf ⟨7, Go.Ground.data⟩ (by simp) rfl
              clear haf
              have hu : l8 = false := hu
              have e7 := (H7.out q7)
              subst e7
              clear H7
              refine wpOp_of_list_any rfl fun QQ hQ => ?_
              have hQQ := Lib.hid hQ
              clear hQ
              simp only [List.getElem_toArray, List.getElem_cons_zero, List.getElem_cons_succ]
              go_wp2_with fail
              refine (next_any b 4 _ HS.out.dice (by omega) (by omega)).mono ?_
              rintro e x1 ⟨v, rfl, h0, h1, -, hd1, ho1⟩
              have h1 := h1 (by omega)
              have hk := Kept.only ho1 hbB
              have HS1 := Lib.hid (HS.out.only hd1 ho1)
              clear ho1 hd1
              go_wp2_with fail
              exact hQQ.out _ _ ⟨l0, l1, l2, l3, l4, l5, l6, l7, true, l9, _, _, _, _, _, _, _, _, _, _, rfl, rfl, H0, H1, H2, H3, H4, H5, H6, Lib.hid (fun _ => rfl), Lib.hid (fun _ => ⟨_, rfl, by omega, by omega⟩), H9, HS1⟩
            · have haf := haf _ rfl
              have q6 : l6 = true := haf ⟨6, Go.Ground.data⟩ (by simp) rfl
              have q8 : l8 = true := haf ⟨8, Go.Ground.data⟩ (by simp) rfl
              clear haf
              have hu : l9 = false := hu
              obtain ⟨n6, e6⟩ := (H6.out q6)
              subst e6
              clear H6
              obtain ⟨n8, e8, c8_0, c8_1⟩ := (H8.out q8)
              subst e8
              clear H8
              refine wpOp_of_list_any rfl fun QQ hQ => ?_
              have hQQ := Lib.hid hQ
              clear hQ
              simp only [List.getElem_toArray, List.getElem_cons_zero, List.getElem_cons_succ]
              go_wp2_with fail
              exact hQQ.out _ _ ⟨l0, l1, l2, l3, l4, l5, l6, l7, l8, true, _, _, _, _, _, _, _, _, _, _, rfl, rfl, H0, H1, H2, H3, H4, H5, Lib.hid (fun _ => ⟨n6, rfl⟩), H7, Lib.hid (fun _ => ⟨n8, rfl, c8_0, c8_1⟩), Lib.hid (fun _ => ⟨_, rfl⟩), HS⟩
          · intro listed a x hj hall
            obtain ⟨l0, hj⟩ := hj
            obtain ⟨l1, hj⟩ := hj
            obtain ⟨l2, hj⟩ := hj
            obtain ⟨l3, hj⟩ := hj
            obtain ⟨l4, hj⟩ := hj
            obtain ⟨l5, hj⟩ := hj
            obtain ⟨l6, hj⟩ := hj
            obtain ⟨l7, hj⟩ := hj
            obtain ⟨l8, hj⟩ := hj
            obtain ⟨l9, hj⟩ := hj
            obtain ⟨t83, hj⟩ := hj
            obtain ⟨t84, hj⟩ := hj
            obtain ⟨t85, hj⟩ := hj
            obtain ⟨t86, hj⟩ := hj
            obtain ⟨t87, hj⟩ := hj
            obtain ⟨t88, hj⟩ := hj
            obtain ⟨t89, hj⟩ := hj
            obtain ⟨t90, hj⟩ := hj
            obtain ⟨t91, hj⟩ := hj
            obtain ⟨t92, hj⟩ := hj
            obtain ⟨hl_, hj⟩ := hj
            obtain ⟨ha_, hj⟩ := hj
            obtain ⟨H0, hj⟩ := hj
            obtain ⟨H1, hj⟩ := hj
            obtain ⟨H2, hj⟩ := hj
            obtain ⟨H3, hj⟩ := hj
            obtain ⟨H4, hj⟩ := hj
            obtain ⟨H5, hj⟩ := hj
            obtain ⟨H6, hj⟩ := hj
            obtain ⟨H7, hj⟩ := hj
            obtain ⟨H8, hj⟩ := hj
            obtain ⟨H9, hj⟩ := hj
            have HS := hj
            clear hj
            subst hl_
            subst ha_
            have q0 : l0 = true := hall 0 (by omega)
            have q9 : l9 = true := hall 9 (by omega)
            clear hall
            have e0 := (H0.out q0)
            subst e0
            obtain ⟨n9, e9⟩ := (H9.out q9)
            subst e9
            have B3 := HS.out.blk HB4.out hSb
            have R3 := HS.out.blk HR4.out hRb
            have E3 : RowZ w.heap.size x (.slice (some ⟨g, 0, none⟩) L c1) sh := row_but HE4.out hblt HS.out.but
            have K3 := but_then HK4.out HS.out.but HK4.out.size
            have G3 := hcur.but HS.out.but hgb
            obtain ⟨sh2, hs2, E5⟩ := RowZ.put E3 (by rw [← HL.out]) (k * 2) n9
            have f5 : x.cell? ⟨g, k * 2, none⟩ = some (.int .i64 a1) := (HS.out.but.cell (p := ⟨g, k * 2, none⟩) hg2 hgb).trans Hca1.out
            have z5 := E3.frozen (n := L) (k * 2)
            refine tail_any (fun a x => ∃ (t83 t84 t85 t86 t87 t88 t89 t90 t91 t92 t93 t94 : Value), a = ⟨(.pointer (some ⟨b, 0, none⟩) :: .agg #[.string n0, .int .i64 v0, .slice pz L cz] :: undef :: .pointer (some ⟨w.heap.size, 0, none⟩) :: .pointer (some ⟨w.heap.size + 1, 0, none⟩) :: .int .i64 L :: .pointer (some ⟨g, k * 2, none⟩) :: undef :: .pointer (some ⟨w.heap.size, 2, none⟩) :: .slice pz L cz :: .slice (some ⟨g, 0, none⟩) L c1 :: .pointer (some ⟨w.heap.size, 2, none⟩) :: .pointer (some ⟨w.heap.size, 2, none⟩) :: .slice (some ⟨g, 0, none⟩) L c1 :: .int .i64 L :: .int .i64 L :: .bool false :: undef :: undef :: undef :: undef :: undef :: undef :: undef :: undef :: undef :: undef :: undef :: undef :: t29 :: t30 :: t31 :: t32 :: t33 :: t34 :: .pointer (some ⟨b, 0, none⟩) :: .int .i64 2 :: undef :: undef :: undef :: undef :: undef :: undef :: undef :: undef :: undef :: undef :: undef :: undef :: undef :: undef :: undef :: undef :: undef :: undef :: undef :: undef :: undef :: undef :: undef :: undef :: undef :: undef :: undef :: undef :: undef :: undef :: undef :: undef :: undef :: .bool false :: .bool false :: undef :: .bool false :: .bool false :: undef :: undef :: undef :: undef :: undef :: undef :: .bool true :: .bool true :: t83 :: t84 :: t85 :: t86 :: t87 :: t88 :: t89 :: t90 :: t91 :: t92 :: t93 :: t94 :: undef :: undef :: undef :: undef :: undef :: undef :: undef :: undef :: undef :: undef :: undef :: undef :: undef :: undef :: undef :: []).toArray, []⟩ ∧ ∃ sh2 : List (Int × Int), sh2.length = L ∧ Blk w.heap.size #[.string n0, .int .i64 v0, .slice (some ⟨g, 0, none⟩) L c1] 50 x ∧ Blk (w.heap.size + 1) #[.string ⟨#[]⟩, .int .i64 0, .slice none 0 0] 50 x ∧ RowZ w.heap.size x (.slice (some ⟨g, 0, none⟩) L c1) sh2 ∧ Dice b x ∧ But b w.heap.size w x) ?_ fun QQ hQ => ?_
            · intro a x hpost
              obtain ⟨t83, hpost⟩ := hpost
              obtain ⟨t84, hpost⟩ := hpost
              obtain ⟨t85, hpost⟩ := hpost
              obtain ⟨t86, hpost⟩ := hpost
              obtain ⟨t87, hpost⟩ := hpost
              obtain ⟨t88, hpost⟩ := hpost
              obtain ⟨t89, hpost⟩ := hpost
              obtain ⟨t90, hpost⟩ := hpost
              obtain ⟨t91, hpost⟩ := hpost
              obtain ⟨t92, hpost⟩ := hpost
              obtain ⟨t93, hpost⟩ := hpost
              obtain ⟨t94, hpost⟩ := hpost
              obtain ⟨ha_, hpost⟩ := hpost
              subst ha_
              obtain ⟨sh2, hs2, p1_, p2_, p3_, p4_, p5_⟩ := hpost
              have HB := Lib.hid p1_
              have HR := Lib.hid p2_
              have HE := Lib.hid p3_
              have HD := Lib.hid p4_
              have HK := Lib.hid p5_
              clear p1_ p2_ p3_ p4_ p5_ HB4 HR4 HE4 HD0 HK4
              go_upto_region 20 with (fail)
              obtain ⟨c0_, c1_, c2_⟩ := And.intro (HB.out.cell 0) (And.intro (HB.out.cell 1) (HB.out.cell 2))
              simp only [List.getElem?_toArray, List.getElem?_cons_zero, List.getElem?_cons_succ] at c0_ c1_ c2_
              obtain ⟨r0, r1, r2⟩ := And.intro (HR.out.cell 0) (And.intro (HR.out.cell 1) (HR.out.cell 2))
              simp only [List.getElem?_toArray, List.getElem?_cons_zero, List.getElem?_cons_succ] at r0 r1 r2
              obtain ⟨z0, z1, z2⟩ := And.intro (HR.out.frozen 0) (And.intro (HR.out.frozen 1) (HR.out.frozen 2))
              go_wp2_with fail
              obtain ⟨W9, hW, B9, fX, fD, fK⟩ := fill3 HR.out (.string n0) (.int .i64 v0) (.slice (some ⟨g, 0, none⟩) L c1)
              rw [← hW]
              have E9 := fX _ _ _ _ _ _ (by decide) HE.out
              have D9 := fD b (by omega) HD.out
              have K9 := fK b w.heap.size w (by omega) HK.out
              clear hW fX fD fK r0 r1 r2 c0_ c1_ c2_ z0 z1 z2
              have r0 : W9.cell? ⟨w.heap.size + 1, 0, none⟩ = some (.string n0) := B9.cell 0
              have r1 : W9.cell? ⟨w.heap.size + 1, 1, none⟩ = some (.int .i64 v0) := B9.cell 1
              have r2 : W9.cell? ⟨w.heap.size + 1, 2, none⟩ = some (.slice (some ⟨g, 0, none⟩) L c1) := B9.cell 2
              refine bodyPost_ret (v := .agg #[.string n0, .int .i64 v0, .slice (some ⟨g, 0, none⟩) L c1]) (by simp [results, Tryz.results54, go_sem, r0, r1, r2]) rfl ?_
              subst hs2
              exact ⟨n0, v0, (some ⟨g, 0, none⟩), c1, sh2, rfl, by first | omega | (show 0 ≤ 1000; omega), by first | omega | (simp <;> omega), E9, D9, K9⟩
            have hQQ := Lib.hid hQ
            clear hQ
            simp only [List.drop_succ_cons, List.drop_zero]
            go_wp2_with fail
            exact hQQ.out _ _ ⟨_, _, _, _, _, _, _, _, _, _, _, _, rfl, sh2, hs2, B3.set_other hSg (k * 2) _, R3.set_other hRg (k * 2) _, E5, dice_set HS.out.dice hbg, but_set K3 hg1⟩
        · obtain ⟨a0, hca0⟩ := RowZ.cell (n := L) HE4.out 0 (by have := HL.out; omega)
          obtain ⟨o0, hco0⟩ := RowZ.cell (n := L) HE4.out (k * 2 + 1) (by have := HL.out; omega)
          obtain ⟨a1, hca1⟩ := RowZ.cell (n := L) HE4.out (k * 2) (by have := HL.out; omega)
          have hza := RowZ.frozen (n := L) HE4.out (k * 2)
          have hzo := RowZ.frozen (n := L) HE4.out (k * 2 + 1)
          have hSg : w.heap.size ≠ g := by intro e; subst e; exact absurd (show some (Obj.cells _ 50 (0, 0)) = some (Obj.cells cur 137 (0, 0)) from (show w3.heap[w.heap.size]? = _ from HB4.out).symm.trans hcur) (by simp)
          have hRg : w.heap.size + 1 ≠ g := by intro e; subst e; exact absurd (show some (Obj.cells _ 50 (0, 0)) = some (Obj.cells cur 137 (0, 0)) from (show w3.heap[w.heap.size + 1]? = _ from HR4.out).symm.trans hcur) (by simp)
          have hbg : b < g := by omega
          have hbB : b < w3.heap.size := HD4.out.lt
          have HD0 := HD4
          clear HD4
          have Hca0 := Lib.hid hca0
          have Hco0 := Lib.hid hco0
          have Hca1 := Lib.hid hca1
          clear hca0 hco0 hca1
          go_wp2_with fail
          refine wp_region_tail 9 (by kernel_rfl) (fun listed a x => ∃ (l0 l1 l2 l3 l4 l5 l6 l7 l8 : Bool) (t97 t98 t99 t100 t101 t102 t103 t104 t105 : Value), listed = #[l0, l1, l2, l3, l4, l5, l6, l7, l8, false, false, false, false] ∧ a = ⟨(.pointer (some ⟨b, 0, none⟩) :: .agg #[.string n0, .int .i64 v0, .slice pz L cz] :: undef :: .pointer (some ⟨w.heap.size, 0, none⟩) :: .pointer (some ⟨w.heap.size + 1, 0, none⟩) :: .int .i64 L :: .pointer (some ⟨g, k * 2, none⟩) :: undef :: .pointer (some ⟨w.heap.size, 2, none⟩) :: .slice pz L cz :: .slice (some ⟨g, 0, none⟩) L c1 :: .pointer (some ⟨w.heap.size, 2, none⟩) :: .pointer (some ⟨w.heap.size, 2, none⟩) :: .slice (some ⟨g, 0, none⟩) L c1 :: .int .i64 L :: .int .i64 L :: .bool false :: undef :: undef :: undef :: undef :: undef :: undef :: undef :: undef :: undef :: undef :: undef :: undef :: t29 :: t30 :: t31 :: t32 :: t33 :: t34 :: .pointer (some ⟨b, 0, none⟩) :: .int .i64 3 :: undef :: undef :: undef :: undef :: undef :: undef :: undef :: undef :: undef :: undef :: undef :: undef :: undef :: undef :: undef :: undef :: undef :: undef :: undef :: undef :: undef :: undef :: undef :: undef :: undef :: undef :: undef :: undef :: undef :: undef :: undef :: undef :: undef :: .bool false :: .bool false :: undef :: .bool false :: .bool false :: undef :: undef :: undef :: undef :: undef :: undef :: .bool false :: .bool false :: undef :: undef :: undef :: undef :: undef :: undef :: undef :: undef :: undef :: undef :: undef :: undef :: .bool true :: .bool true :: t97 :: t98 :: t99 :: t100 :: t101 :: t102 :: t103 :: t104 :: t105 :: undef :: undef :: undef :: undef :: []).toArray, []⟩ ∧ Hid (l0 = true → t97 = .pointer (some ⟨g, k * 2, none⟩)) ∧ Hid (l1 = true → t98 = .pointer (some ⟨g, k * 2, none⟩)) ∧ Hid (l2 = true → t99 = .pointer (some ⟨g, k * 2 + 1, none⟩)) ∧ Hid (l3 = true → t100 = .int .i64 o0) ∧ Hid (l4 = true → l7 = false → ∃ (g : Nat), t101 = .slice (some ⟨g, 0, none⟩) 3 3 ∧ w3.heap.size ≤ g ∧ Blk g #[.int .i64 120, .int .i64 121, .int .i64 (-240)] 3 x) ∧ Hid (l5 = true → t102 = .pointer (some ⟨b, 0, none⟩)) ∧ Hid (l6 = true → ∃ (n : Int), t103 = .int .i64 n ∧ 0 ≤ n ∧ n ≤ 2) ∧ Hid (l7 = true → l8 = false → ∃ (g : Nat) (k : Nat), t104 = .pointer (some ⟨g, k, none⟩) ∧ k < 3 ∧ w3.heap.size ≤ g ∧ Blk g #[.int .i64 120, .int .i64 121, .int .i64 (-240)] 3 x) ∧ Hid (l8 = true → ∃ (n : Int), t105 = .int .i64 n ∧ (-240) ≤ n ∧ n ≤ 121) ∧ Hid (Sofar b w3 x)) (by decide) (by kernel_rfl) (by kernel_rfl) ?_ ?_ ?_ ?_
          · exact ⟨false, false, false, false, false, false, false, false, false, _, _, _, _, _, _, _, _, _, rfl, rfl, Lib.hid (fun h => by cases h), Lib.hid (fun h => by cases h), Lib.hid (fun h => by cases h), Lib.hid (fun h => by cases h), Lib.hid (fun h => by cases h), Lib.hid (fun h => by cases h), Lib.hid (fun h => by cases h), Lib.hid (fun h => by cases h), Lib.hid (fun h => by cases h), Lib.hid (Sofar.start HD0.out)⟩
          · intro listed a x hj
            obtain ⟨l0, hj⟩ := hj
            obtain ⟨l1, hj⟩ := hj
            obtain ⟨l2, hj⟩ := hj
            obtain ⟨l3, hj⟩ := hj
            obtain ⟨l4, hj⟩ := hj
            obtain ⟨l5, hj⟩ := hj
            obtain ⟨l6, hj⟩ := hj
            obtain ⟨l7, hj⟩ := hj
            obtain ⟨l8, hj⟩ := hj
            obtain ⟨t97, hj⟩ := hj
            obtain ⟨t98, hj⟩ := hj
            obtain ⟨t99, hj⟩ := hj
            obtain ⟨t100, hj⟩ := hj
            obtain ⟨t101, hj⟩ := hj
            obtain ⟨t102, hj⟩ := hj
            obtain ⟨t103, hj⟩ := hj
            obtain ⟨t104, hj⟩ := hj
            obtain ⟨t105, hj⟩ := hj
            obtain ⟨h1, -⟩ := hj
            subst h1
            exact ⟨rfl, fun k h1 h2 => by (have h2 : k < 13 := h2); rcases (show k = 9 ∨ k = 10 ∨ k = 11 ∨ k = 12 by omega) with rfl | rfl | rfl | rfl <;> rfl⟩
          · intro listed a x i hj hlt hu haf
            obtain ⟨l0, hj⟩ := hj
            obtain ⟨l1, hj⟩ := hj
            obtain ⟨l2, hj⟩ := hj
            obtain ⟨l3, hj⟩ := hj
            obtain ⟨l4, hj⟩ := hj
            obtain ⟨l5, hj⟩ := hj
            obtain ⟨l6, hj⟩ := hj
            obtain ⟨l7, hj⟩ := hj
            obtain ⟨l8, hj⟩ := hj
            obtain ⟨t97, hj⟩ := hj
            obtain ⟨t98, hj⟩ := hj
            obtain ⟨t99, hj⟩ := hj
            obtain ⟨t100, hj⟩ := hj
            obtain ⟨t101, hj⟩ := hj
            obtain ⟨t102, hj⟩ := hj
            obtain ⟨t103, hj⟩ := hj
            obtain ⟨t104, hj⟩ := hj
            obtain ⟨t105, hj⟩ := hj
            obtain ⟨hl_, hj⟩ := hj
            obtain ⟨ha_, hj⟩ := hj
            obtain ⟨H0, hj⟩ := hj
            obtain ⟨H1, hj⟩ := hj
            obtain ⟨H2, hj⟩ := hj
            obtain ⟨H3, hj⟩ := hj
            obtain ⟨H4, hj⟩ := hj
            obtain ⟨H5, hj⟩ := hj
            obtain ⟨H6, hj⟩ := hj
            obtain ⟨H7, hj⟩ := hj
            obtain ⟨H8, hj⟩ := hj
            have HS := hj
            clear hj
            subst hl_
            subst ha_
            rcases (show ∀ i : Nat, i < 9 → (i = 0 ∨ i = 1 ∨ i = 2 ∨ i = 3 ∨ i = 4 ∨ i = 5 ∨ i = 6 ∨ i = 7 ∨ i = 8) by decide) i hlt with rfl | rfl | rfl | rfl | rfl | rfl | rfl | rfl | rfl
            · have haf := haf _ rfl
              clear haf
              have hu : l0 = false := hu
              refine wpOp_of_list_any rfl fun QQ hQ => ?_
              have hQQ := Lib.hid hQ
              clear hQ
              simp only [List.getElem_toArray, List.getElem_cons_zero]
              go_wp2_with fail
              exact hQQ.out _ _ ⟨true, l1, l2, l3, l4, l5, l6, l7, l8, _, _, _, _, _, _, _, _, _, rfl, rfl, Lib.hid (fun _ => rfl), H1, H2, H3, H4, H5, H6, H7, H8, HS⟩
            · have haf := haf _ rfl
              have q0 : l0 = true := haf ⟨0, Go.Ground.data⟩ (by simp) rfl
              clear haf
              have hu : l1 = false := hu
              have e0 := (H0.out q0)
              subst e0
              clear H0
              refine wpOp_of_list_any rfl fun QQ hQ => ?_
              have hQQ := Lib.hid hQ
              clear hQ
              simp only [List.getElem_toArray, List.getElem_cons_zero, List.getElem_cons_succ]
              go_wp2_with fail
              exact hQQ.out _ _ ⟨l0, true, l2, l3, l4, l5, l6, l7, l8, _, _, _, _, _, _, _, _, _, rfl, rfl, Lib.hid (fun _ => rfl), Lib.hid (fun _ => rfl), H2, H3, H4, H5, H6, H7, H8, HS⟩
            · have haf := haf _ rfl
              have q1 : l1 = true := haf ⟨1, Go.Ground.data⟩ (by simp) rfl
              clear haf
              have hu : l2 = false := hu
              have e1 := (H1.out q1)
              subst e1
              clear H1
              refine wpOp_of_list_any rfl fun QQ hQ => ?_
              have hQQ := Lib.hid hQ
              clear hQ
              simp only [List.getElem_toArray, List.getElem_cons_zero, List.getElem_cons_succ]
              go_wp2_with fail
              exact hQQ.out _ _ ⟨l0, l1, true, l3, l4, l5, l6, l7, l8, _, _, _, _, _, _, _, _, _, rfl, rfl, H0, Lib.hid (fun _ => rfl), Lib.hid (fun _ => rfl), H3, H4, H5, H6, H7, H8, HS⟩
            · have haf := haf _ rfl
              have q2 : l2 = true := haf ⟨2, Go.Ground.data⟩ (by simp) rfl
              clear haf
              have hu : l3 = false := hu
              have e2 := (H2.out q2)
              subst e2
              clear H2
              have hc : x.cell? ⟨g, k * 2 + 1, none⟩ = some (.int .i64 o0) := (HS.out.but.cell (p := ⟨g, k * 2 + 1, none⟩) hg2 hgb).trans Hco0.out
              refine wpOp_of_list_any rfl fun QQ hQ => ?_
              have hQQ := Lib.hid hQ
              clear hQ
              simp only [List.getElem_toArray, List.getElem_cons_zero, List.getElem_cons_succ]
              go_wp2_with fail
              exact hQQ.out _ _ ⟨l0, l1, l2, true, l4, l5, l6, l7, l8, _, _, _, _, _, _, _, _, _, rfl, rfl, H0, H1, Lib.hid (fun _ => rfl), Lib.hid (fun _ => rfl), H4, H5, H6, H7, H8, HS⟩
            · have haf := haf _ rfl
              clear haf
              have hu : l4 = false := hu
              refine wpOp_of_list_any rfl fun QQ hQ => ?_
              have hQQ := Lib.hid hQ
              clear hQ
              simp only [List.getElem_toArray, List.getElem_cons_zero, List.getElem_cons_succ]
              go_wp2_with fail
              exact hQQ.out _ _ ⟨l0, l1, l2, l3, true, l5, l6, l7, l8, _, _, _, _, _, _, _, _, _, rfl, rfl, H0, H1, H2, H3, Lib.hid (fun _ _ => ⟨_, rfl, HS.out.but.size, Blk.new x _ _⟩), H5, H6, Lib.hid (fun h h2 => (by obtain ⟨g, k, e, c0, c1, c2⟩ := H7.out h h2; exact ⟨g, k, e, c0, c1, ((Kept.alloc _ x _) _ _ _ c1 c2)⟩)), H8, Lib.hid (HS.out.alloc _)⟩
            · have haf := haf _ rfl
              clear haf
              have hu : l5 = false := hu
              refine wpOp_of_list_any rfl fun QQ hQ => ?_
              have hQQ := Lib.hid hQ
              clear hQ
              simp only [List.getElem_toArray, List.getElem_cons_zero, List.getElem_cons_succ]
              go_wp2_with fail
              exact hQQ.out _ _ ⟨l0, l1, l2, l3, l4, true, l6, l7, l8, _, _, _, _, _, _, _, _, _, rfl, rfl, H0, H1, H2, H3, H4, Lib.hid (fun _ => rfl), H6, H7, H8, HS⟩
            · have haf := haf _ rfl
              have q5 : l5 = true := haf ⟨5, Go.Ground.data⟩ (by simp) rfl
              clear haf
              have hu : l6 = false := hu
              have e5 := (H5.out q5)
              subst e5
              clear H5
              refine wpOp_of_list_any rfl fun QQ hQ => ?_
              have hQQ := Lib.hid hQ
              clear hQ
              simp only [List.getElem_toArray, List.getElem_cons_zero, List.getElem_cons_succ]
              go_wp2_with fail
              refine (next_any b 3 _ HS.out.dice (by omega) (by omega)).mono ?_
              rintro e x1 ⟨v, rfl, h0, h1, -, hd1, ho1⟩
              have h1 := h1 (by omega)
              have hk := Kept.only ho1 hbB
              have HS1 := Lib.hid (HS.out.only hd1 ho1)
              clear ho1 hd1
              go_wp2_with fail
              exact hQQ.out _ _ ⟨l0, l1, l2, l3, l4, l5, true, l7, l8, _, _, _, _, _, _, _, _, _, rfl, rfl, H0, H1, H2, H3, Lib.hid (fun h h2 => (by obtain ⟨g, e, c0, c1⟩ := H4.out h h2; exact ⟨g, e, c0, (hk _ _ _ c0 c1)⟩)), Lib.hid (fun _ => rfl), Lib.hid (fun _ => ⟨_, rfl, by omega, by omega⟩), Lib.hid (fun h h2 => (by obtain ⟨g, k, e, c0, c1, c2⟩ := H7.out h h2; exact ⟨g, k, e, c0, c1, (hk _ _ _ c1 c2)⟩)), H8, HS1⟩
            · have haf := haf _ rfl
              have q4 : l4 = true := haf ⟨4, Go.Ground.data⟩ (by simp) rfl
              have q6 : l6 = true := haf ⟨6, Go.Ground.data⟩ (by simp) rfl
              clear haf
              have hu : l7 = false := hu
              obtain ⟨g4, e4, c4_0, c4_1⟩ := (H4.out q4 hu)
              subst e4
              clear H4
              obtain ⟨n6, e6, c6_0, c6_1⟩ := (H6.out q6)
              subst e6
              clear H6
              refine wpOp_of_list_any rfl fun QQ hQ => ?_
              have hQQ := Lib.hid hQ
              clear hQ
              simp only [List.getElem_toArray, List.getElem_cons_zero, List.getElem_cons_succ]
              go_wp2_with fail
              exact hQQ.out _ _ ⟨l0, l1, l2, l3, l4, l5, l6, true, l8, _, _, _, _, _, _, _, _, _, rfl, rfl, H0, H1, H2, H3, Lib.hid (fun _ h => by cases h), H5, Lib.hid (fun _ => ⟨n6, rfl, c6_0, c6_1⟩), Lib.hid (fun _ _ => ⟨_, _, rfl, by omega, by omega, by assumption⟩), H8, HS⟩
            · have haf := haf _ rfl
              have q7 : l7 = true := haf ⟨7, Go.Ground.data⟩ (by simp) rfl
              clear haf
              have hu : l8 = false := hu
              obtain ⟨g7, k7, e7, c7_0, c7_1, c7_2⟩ := (H7.out q7 hu)
              subst e7
              clear H7
              obtain ⟨v, hv, hP⟩ : ∃ v, x.cell? ⟨g7, k7, none⟩ = some v ∧ (∃ (n : Int), v = .int .i64 n ∧ (-240) ≤ n ∧ n ≤ 121) := by
                rcases (show k7 = 0 ∨ k7 = 1 ∨ k7 = 2 by omega) with rfl | rfl | rfl
                · exact ⟨_, c7_2.cell 0, _, rfl, by first | omega | decide, by first | omega | decide⟩
                · exact ⟨_, c7_2.cell 1, _, rfl, by first | omega | decide, by first | omega | decide⟩
                · exact ⟨_, c7_2.cell 2, _, rfl, by first | omega | decide, by first | omega | decide⟩
              obtain ⟨y0, rfl, d0, d1⟩ := hP
              refine wpOp_of_list_any rfl fun QQ hQ => ?_
              have hQQ := Lib.hid hQ
              clear hQ
              simp only [List.getElem_toArray, List.getElem_cons_zero, List.getElem_cons_succ]
              go_wp2_with fail
              exact hQQ.out _ _ ⟨l0, l1, l2, l3, l4, l5, l6, l7, true, _, _, _, _, _, _, _, _, _, rfl, rfl, H0, H1, H2, H3, H4, H5, H6, Lib.hid (fun _ h => by cases h), Lib.hid (fun _ => ⟨_, rfl, by omega, by omega⟩), HS⟩
          · intro listed a x hj hall
            obtain ⟨l0, hj⟩ := hj
            obtain ⟨l1, hj⟩ := hj
            obtain ⟨l2, hj⟩ := hj
            obtain ⟨l3, hj⟩ := hj
            obtain ⟨l4, hj⟩ := hj
            obtain ⟨l5, hj⟩ := hj
            obtain ⟨l6, hj⟩ := hj
            obtain ⟨l7, hj⟩ := hj
            obtain ⟨l8, hj⟩ := hj
            obtain ⟨t97, hj⟩ := hj
            obtain ⟨t98, hj⟩ := hj
            obtain ⟨t99, hj⟩ := hj
            obtain ⟨t100, hj⟩ := hj
            obtain ⟨t101, hj⟩ := hj
            obtain ⟨t102, hj⟩ := hj
            obtain ⟨t103, hj⟩ := hj
            obtain ⟨t104, hj⟩ := hj
            obtain ⟨t105, hj⟩ := hj
            obtain ⟨hl_, hj⟩ := hj
            obtain ⟨ha_, hj⟩ := hj
            obtain ⟨H0, hj⟩ := hj
            obtain ⟨H1, hj⟩ := hj
            obtain ⟨H2, hj⟩ := hj
            obtain ⟨H3, hj⟩ := hj
            obtain ⟨H4, hj⟩ := hj
            obtain ⟨H5, hj⟩ := hj
            obtain ⟨H6, hj⟩ := hj
            obtain ⟨H7, hj⟩ := hj
            obtain ⟨H8, hj⟩ := hj
            have HS := hj
            clear hj
            subst hl_
            subst ha_
            have q0 : l0 = true := hall 0 (by omega)
            have q3 : l3 = true := hall 3 (by omega)
            have q8 : l8 = true := hall 8 (by omega)
            clear hall
            have e0 := (H0.out q0)
            subst e0
            have e3 := (H3.out q3)
            subst e3
            obtain ⟨n8, e8, c8_0, c8_1⟩ := (H8.out q8)
            subst e8
            have B3 := HS.out.blk HB4.out hSb
            have R3 := HS.out.blk HR4.out hRb
            have E3 : RowZ w.heap.size x (.slice (some ⟨g, 0, none⟩) L c1) sh := row_but HE4.out hblt HS.out.but
            have K3 := but_then HK4.out HS.out.but HK4.out.size
            have G3 := hcur.but HS.out.but hgb
            obtain ⟨sh2, hs2, E5⟩ : ∃ sh2 : List (Int × Int), sh2.length = L ∧ RowZ w.heap.size (x.setCell ⟨g, k * 2 + 1, none⟩ (.int .i64 (wrap64 (o0 + n8)))) (.slice (some ⟨g, 0, none⟩) L c1) sh2 := RowZ.put E3 (by rw [← HL.out]) (k * 2 + 1) _
            have f5 : x.cell? ⟨g, k * 2 + 1, none⟩ = some (.int .i64 o0) := (HS.out.but.cell (p := ⟨g, k * 2 + 1, none⟩) hg2 hgb).trans Hco0.out
            have z5 := E3.frozen (n := L) (k * 2 + 1)
            refine tail_any (fun a x => ∃ (t97 t98 t99 t100 t101 t102 t103 t104 t105 t106 t107 t108 : Value), a = ⟨(.pointer (some ⟨b, 0, none⟩) :: .agg #[.string n0, .int .i64 v0, .slice pz L cz] :: undef :: .pointer (some ⟨w.heap.size, 0, none⟩) :: .pointer (some ⟨w.heap.size + 1, 0, none⟩) :: .int .i64 L :: .pointer (some ⟨g, k * 2, none⟩) :: undef :: .pointer (some ⟨w.heap.size, 2, none⟩) :: .slice pz L cz :: .slice (some ⟨g, 0, none⟩) L c1 :: .pointer (some ⟨w.heap.size, 2, none⟩) :: .pointer (some ⟨w.heap.size, 2, none⟩) :: .slice (some ⟨g, 0, none⟩) L c1 :: .int .i64 L :: .int .i64 L :: .bool false :: undef :: undef :: undef :: undef :: undef :: undef :: undef :: undef :: undef :: undef :: undef :: undef :: t29 :: t30 :: t31 :: t32 :: t33 :: t34 :: .pointer (some ⟨b, 0, none⟩) :: .int .i64 3 :: undef :: undef :: undef :: undef :: undef :: undef :: undef :: undef :: undef :: undef :: undef :: undef :: undef :: undef :: undef :: undef :: undef :: undef :: undef :: undef :: undef :: undef :: undef :: undef :: undef :: undef :: undef :: undef :: undef :: undef :: undef :: undef :: undef :: .bool false :: .bool false :: undef :: .bool false :: .bool false :: undef :: undef :: undef :: undef :: undef :: undef :: .bool false :: .bool false :: undef :: undef :: undef :: undef :: undef :: undef :: undef :: undef :: undef :: undef :: undef :: undef :: .bool true :: .bool true :: t97 :: t98 :: t99 :: t100 :: t101 :: t102 :: t103 :: t104 :: t105 :: t106 :: t107 :: t108 :: undef :: []).toArray, []⟩ ∧ ∃ sh2 : List (Int × Int), sh2.length = L ∧ Blk w.heap.size #[.string n0, .int .i64 v0, .slice (some ⟨g, 0, none⟩) L c1] 50 x ∧ Blk (w.heap.size + 1) #[.string ⟨#[]⟩, .int .i64 0, .slice none 0 0] 50 x ∧ RowZ w.heap.size x (.slice (some ⟨g, 0, none⟩) L c1) sh2 ∧ Dice b x ∧ But b w.heap.size w x) ?_ fun QQ hQ => ?_
            · intro a x hpost
              obtain ⟨t97, hpost⟩ := hpost
              obtain ⟨t98, hpost⟩ := hpost
              obtain ⟨t99, hpost⟩ := hpost
              obtain ⟨t100, hpost⟩ := hpost
              obtain ⟨t101, hpost⟩ := hpost
              obtain ⟨t102, hpost⟩ := hpost
              obtain ⟨t103, hpost⟩ := hpost
              obtain ⟨t104, hpost⟩ := hpost
              obtain ⟨t105, hpost⟩ := hpost
              obtain ⟨t106, hpost⟩ := hpost
              obtain ⟨t107, hpost⟩ := hpost
              obtain ⟨t108, hpost⟩ := hpost
              obtain ⟨ha_, hpost⟩ := hpost
              subst ha_
              obtain ⟨sh2, hs2, p1_, p2_, p3_, p4_, p5_⟩ := hpost
              have HB := Lib.hid p1_
              have HR := Lib.hid p2_
              have HE := Lib.hid p3_
              have HD := Lib.hid p4_
              have HK := Lib.hid p5_
              clear p1_ p2_ p3_ p4_ p5_ HB4 HR4 HE4 HD0 HK4
              go_upto_region 20 with (fail)
              obtain ⟨c0_, c1_, c2_⟩ := And.intro (HB.out.cell 0) (And.intro (HB.out.cell 1) (HB.out.cell 2))
              simp only [List.getElem?_toArray, List.getElem?_cons_zero, List.getElem?_cons_succ] at c0_ c1_ c2_
              obtain ⟨r0, r1, r2⟩ := And.intro (HR.out.cell 0) (And.intro (HR.out.cell 1) (HR.out.cell 2))
              simp only [List.getElem?_toArray, List.getElem?_cons_zero, List.getElem?_cons_succ] at r0 r1 r2
              obtain ⟨z0, z1, z2⟩ := And.intro (HR.out.frozen 0) (And.intro (HR.out.frozen 1) (HR.out.frozen 2))
              go_wp2_with fail
              obtain ⟨W9, hW, B9, fX, fD, fK⟩ := fill3 HR.out (.string n0) (.int .i64 v0) (.slice (some ⟨g, 0, none⟩) L c1)
              rw [← hW]
              have E9 := fX _ _ _ _ _ _ (by decide) HE.out
              have D9 := fD b (by omega) HD.out
              have K9 := fK b w.heap.size w (by omega) HK.out
              clear hW fX fD fK r0 r1 r2 c0_ c1_ c2_ z0 z1 z2
              have r0 : W9.cell? ⟨w.heap.size + 1, 0, none⟩ = some (.string n0) := B9.cell 0
              have r1 : W9.cell? ⟨w.heap.size + 1, 1, none⟩ = some (.int .i64 v0) := B9.cell 1
              have r2 : W9.cell? ⟨w.heap.size + 1, 2, none⟩ = some (.slice (some ⟨g, 0, none⟩) L c1) := B9.cell 2
              refine bodyPost_ret (v := .agg #[.string n0, .int .i64 v0, .slice (some ⟨g, 0, none⟩) L c1]) (by simp [results, Tryz.results54, go_sem, r0, r1, r2]) rfl ?_
              subst hs2
              exact ⟨n0, v0, (some ⟨g, 0, none⟩), c1, sh2, rfl, by first | omega | (show 0 ≤ 1000; omega), by first | omega | (simp <;> omega), E9, D9, K9⟩
            have hQQ := Lib.hid hQ
            clear hQ
            simp only [List.drop_succ_cons, List.drop_zero]
            go_wp2_with fail
            exact hQQ.out _ _ ⟨_, _, _, _, _, _, _, _, _, _, _, _, rfl, sh2, hs2, B3.set_other hSg (k * 2 + 1) _, R3.set_other hRg (k * 2 + 1) _, E5, dice_set HS.out.dice hbg, but_set K3 hg1⟩
        · go_wp2_with fail
          have HLI := Lib.hid (show (L : Int) = L + 0 by omega)
          go_loopw [7] (fun iv wr => ∃ (i : Int) (g2 m c2 : Nat) (sh2 : List (Int × Int)), iv = .int .i64 i ∧ 0 ≤ i ∧ i ≤ 65 ∧ L ≤ m ∧ m ≤ 75 ∧ Hid (sh2.length = m) ∧ Hid ((m : Int) = L + i) ∧ Hid (Blk w.heap.size #[.string n0, .int .i64 v0, .slice (some ⟨g2, 0, none⟩) m c2] 50 wr) ∧ Hid (Blk (w.heap.size + 1) #[.string ⟨#[]⟩, .int .i64 0, .slice none 0 0] 50 wr) ∧ Hid (RowZ w.heap.size wr (.slice (some ⟨g2, 0, none⟩) m c2) sh2) ∧ Hid (Dice b wr) ∧ Hid (But b w.heap.size w wr)) (fun iv _ => (65 - intOf iv).toNat)
          case atStart => exact ⟨0, g, L, c1, sh, rfl, by omega, by omega, by omega, by omega, Lib.hid HL.out.symm, HLI, HB4, HR4, HE4, HD4, HK4⟩
          case round =>
            clear HB4 HR4 HE4 HD4 HK4 HLI
            obtain ⟨i, g2, m, c2, sh2, rfl, i0_, i1_, m0, m1, HM, HQ, HB, HR, HE, HD0, HK⟩ := hrel
            by_cases hlt : i < 65
            · have hbB : b < wr.heap.size := HD0.out.lt
              have hE2 : wr.ownsRow w.heap.size 137 2 (.slice (some ⟨g2, 0, none⟩) m c2) m (zCells sh2) := by have := HE.out; unfold RowZ at this; rw [HM.out] at this; exact this
              obtain ⟨cur2, hcur2, hg2a, hg2w⟩ := row_blk hE2
              have hg2b : g2 ≠ b := by omega
              obtain ⟨a0, ha0⟩ := RowZ.cell (n := m) HE.out ((L - 1) * 2) (by rw [HM.out]; omega)
              obtain ⟨o0, ho0⟩ := RowZ.cell (n := m) HE.out ((L - 1) * 2 + 1) (by rw [HM.out]; omega)
              have Hca := Lib.hid ha0
              have Hco := Lib.hid ho0
              have hLp : 1 ≤ (L : Int) := by omega
              have hmq : (L : Int) ≤ m := by omega
              have hLw : ((L : Int) - 1).toNat = L - 1 := by omega
              clear ha0 ho0 hE2 hcur2
              go_wp2_with fail
              refine wp_region_tail 27 (by kernel_rfl) (fun listed a x => ∃ (l0 l1 l2 l3 l4 l5 l6 l7 l8 l9 l10 l11 l12 l13 l14 l15 l16 l17 l18 l19 l20 l21 l22 l23 l24 l25 l26 : Bool) (t41 t42 t43 t44 t45 t46 t47 t48 t49 t50 t51 t52 t53 t54 t55 t56 t57 t58 t59 t60 t61 t62 t63 t64 t65 t66 t67 : Value), listed = #[l0, l1, l2, l3, l4, l5, l6, l7, l8, l9, l10, l11, l12, l13, l14, l15, l16, l17, l18, l19, l20, l21, l22, l23, l24, l25, l26, false, false, false] ∧ a = ⟨(.pointer (some ⟨b, 0, none⟩) :: .agg #[.string n0, .int .i64 v0, .slice pz L cz] :: undef :: .pointer (some ⟨w.heap.size, 0, none⟩) :: .pointer (some ⟨w.heap.size + 1, 0, none⟩) :: .int .i64 L :: .pointer (some ⟨g, k * 2, none⟩) :: .int .i64 i :: .pointer (some ⟨w.heap.size, 2, none⟩) :: .slice pz L cz :: .slice (some ⟨g, 0, none⟩) L c1 :: .pointer (some ⟨w.heap.size, 2, none⟩) :: .pointer (some ⟨w.heap.size, 2, none⟩) :: .slice (some ⟨g, 0, none⟩) L c1 :: .int .i64 L :: .int .i64 L :: .bool false :: undef :: undef :: undef :: undef :: undef :: undef :: undef :: undef :: undef :: undef :: undef :: undef :: t29 :: t30 :: t31 :: t32 :: t33 :: t34 :: .pointer (some ⟨b, 0, none⟩) :: .int .i64 4 :: .int .i64 i :: .bool true :: u39 :: u40 :: t41 :: t42 :: t43 :: t44 :: t45 :: t46 :: t47 :: t48 :: t49 :: t50 :: t51 :: t52 :: t53 :: t54 :: t55 :: t56 :: t57 :: t58 :: t59 :: t60 :: t61 :: t62 :: t63 :: t64 :: t65 :: t66 :: t67 :: u68 :: u69 :: .bool false :: .bool false :: undef :: .bool false :: .bool false :: undef :: undef :: undef :: undef :: undef :: undef :: .bool false :: .bool false :: undef :: undef :: undef :: undef :: undef :: undef :: undef :: undef :: undef :: undef :: undef :: undef :: .bool false :: .bool false :: undef :: undef :: undef :: undef :: undef :: undef :: undef :: undef :: undef :: undef :: undef :: undef :: undef :: []).toArray, []⟩ ∧ Hid (l0 = true → t41 = .pointer (some ⟨w.heap.size, 2, none⟩)) ∧ Hid (l1 = true → t42 = .slice (some ⟨g2, 0, none⟩) m c2) ∧ Hid (l2 = true → t43 = .pointer (some ⟨w.heap.size, 2, none⟩)) ∧ Hid (l3 = true → t44 = .slice (some ⟨g2, 0, none⟩) m c2) ∧ Hid (l4 = true → t45 = .int .i64 L) ∧ Hid (l5 = true → t46 = .int .i64 ((L : Int) - 1)) ∧ Hid (l6 = true → ∃ (o : Nat), t47 = .pointer (some ⟨g2, o, none⟩) ∧ Hid (o = (L - 1) * 2)) ∧ Hid (l7 = true → ∃ (o : Nat), t48 = .pointer (some ⟨g2, o, none⟩) ∧ Hid (o = (L - 1) * 2)) ∧ Hid (l8 = true → t49 = .int .i64 a0) ∧ Hid (l9 = true → t50 = .int .i64 i) ∧ Hid (l10 = true → ∃ (n : Int), t51 = .int .i64 n ∧ 1 ≤ n ∧ n ≤ 65) ∧ Hid (l11 = true → ∃ (n : Int), t52 = .int .i64 n) ∧ Hid (l12 = true → ∃ (n : Int), t53 = .int .i64 n) ∧ Hid (l13 = true → t54 = .pointer (some ⟨w.heap.size, 2, none⟩)) ∧ Hid (l14 = true → t55 = .slice (some ⟨g2, 0, none⟩) m c2) ∧ Hid (l15 = true → t56 = .int .i64 L) ∧ Hid (l16 = true → t57 = .int .i64 ((L : Int) - 1)) ∧ Hid (l17 = true → ∃ (o : Nat), t58 = .pointer (some ⟨g2, o, none⟩) ∧ Hid (o = (L - 1) * 2)) ∧ Hid (l18 = true → ∃ (o : Nat), t59 = .pointer (some ⟨g2, o, none⟩) ∧ Hid (o = (L - 1) * 2 + 1)) ∧ Hid (l19 = true → t60 = .int .i64 o0) ∧ Hid (l20 = true → t61 = .int .i64 i) ∧ Hid (l21 = true → ∃ (n : Int), t62 = .int .i64 n ∧ 1 ≤ n ∧ n ≤ 65) ∧ Hid (l22 = true → ∃ (n : Int), t63 = .int .i64 n) ∧ Hid (l23 = true → ∃ (n : Int), t64 = .int .i64 n) ∧ Hid (l24 = true → ∃ (n : Int), t65 = .int .i64 n) ∧ Hid (l25 = true → ∃ (a : Int) (d : Int), t66 = .agg #[.int .i64 a, .int .i64 d]) ∧ Hid (l26 = true → ∃ (a : Int) (d : Int) (g : Nat), t67 = .slice (some ⟨g, 0, none⟩) 1 1 ∧ wr.heap.size ≤ g ∧ Blk g #[.int .i64 a, .int .i64 d] 137 x) ∧ Hid (Sofar b wr x)) (by decide) (by kernel_rfl) (by kernel_rfl) ?_ ?_ ?_ ?_
              · exact ⟨false, false, false, false, false, false, false, false, false, false, false, false, false, false, false, false, false, false, false, false, false, false, false, false, false, false, false, _, _, _, _, _, _, _, _, _, _, _, _, _, _, _, _, _, _, _, _, _, _, _, _, _, _, _, rfl, rfl, Lib.hid (fun h => by cases h), Lib.hid (fun h => by cases h), Lib.hid (fun h => by cases h), Lib.hid (fun h => by cases h), Lib.hid (fun h => by cases h), Lib.hid (fun h => by cases h), Lib.hid (fun h => by cases h), Lib.hid (fun h => by cases h), Lib.hid (fun h => by cases h), Lib.hid (fun h => by cases h), Lib.hid (fun h => by cases h), Lib.hid (fun h => by cases h), Lib.hid (fun h => by cases h), Lib.hid (fun h => by cases h), Lib.hid (fun h => by cases h), Lib.hid (fun h => by cases h), Lib.hid (fun h => by cases h), Lib.hid (fun h => by cases h), Lib.hid (fun h => by cases h), Lib.hid (fun h => by cases h), Lib.hid (fun h => by cases h), Lib.hid (fun h => by cases h), Lib.hid (fun h => by cases h), Lib.hid (fun h => by cases h), Lib.hid (fun h => by cases h), Lib.hid (fun h => by cases h), Lib.hid (fun h => by cases h), Lib.hid (Sofar.start HD0.out)⟩
              · intro listed a x hj
                obtain ⟨l0, hj⟩ := hj
                obtain ⟨l1, hj⟩ := hj
                obtain ⟨l2, hj⟩ := hj
                obtain ⟨l3, hj⟩ := hj
                obtain ⟨l4, hj⟩ := hj
                obtain ⟨l5, hj⟩ := hj
                obtain ⟨l6, hj⟩ := hj
                obtain ⟨l7, hj⟩ := hj
                obtain ⟨l8, hj⟩ := hj
                obtain ⟨l9, hj⟩ := hj
                obtain ⟨l10, hj⟩ := hj
                obtain ⟨l11, hj⟩ := hj
                obtain ⟨l12, hj⟩ := hj
                obtain ⟨l13, hj⟩ := hj
                obtain ⟨l14, hj⟩ := hj
                obtain ⟨l15, hj⟩ := hj
                obtain ⟨l16, hj⟩ := hj
                obtain ⟨l17, hj⟩ := hj
                obtain ⟨l18, hj⟩ := hj
                obtain ⟨l19, hj⟩ := hj
                obtain ⟨l20, hj⟩ := hj
                obtain ⟨l21, hj⟩ := hj
                obtain ⟨l22, hj⟩ := hj
                obtain ⟨l23, hj⟩ := hj
                obtain ⟨l24, hj⟩ := hj
                obtain ⟨l25, hj⟩ := hj
                obtain ⟨l26, hj⟩ := hj
                obtain ⟨t41, hj⟩ := hj
                obtain ⟨t42, hj⟩ := hj
                obtain ⟨t43, hj⟩ := hj
                obtain ⟨t44, hj⟩ := hj
                obtain ⟨t45, hj⟩ := hj
                obtain ⟨t46, hj⟩ := hj
                obtain ⟨t47, hj⟩ := hj
                obtain ⟨t48, hj⟩ := hj
                obtain ⟨t49, hj⟩ := hj
                obtain ⟨t50, hj⟩ := hj
                obtain ⟨t51, hj⟩ := hj
                obtain ⟨t52, hj⟩ := hj
                obtain ⟨t53, hj⟩ := hj
                obtain ⟨t54, hj⟩ := hj
                obtain ⟨t55, hj⟩ := hj
                obtain ⟨t56, hj⟩ := hj
                obtain ⟨t57, hj⟩ := hj
                obtain ⟨t58, hj⟩ := hj
                obtain ⟨t59, hj⟩ := hj
                obtain ⟨t60, hj⟩ := hj
                obtain ⟨t61, hj⟩ := hj
                obtain ⟨t62, hj⟩ := hj
                obtain ⟨t63, hj⟩ := hj
                obtain ⟨t64, hj⟩ := hj
                obtain ⟨t65, hj⟩ := hj
                obtain ⟨t66, hj⟩ := hj
                obtain ⟨t67, hj⟩ := hj
                obtain ⟨h1, -⟩ := hj
                subst h1
                exact ⟨rfl, fun k h1 h2 => by (have h2 : k < 30 := h2); rcases (show k = 27 ∨ k = 28 ∨ k = 29 by omega) with rfl | rfl | rfl <;> rfl⟩
              · intro listed a x i hj hlt hu haf
                obtain ⟨l0, hj⟩ := hj
                obtain ⟨l1, hj⟩ := hj
                obtain ⟨l2, hj⟩ := hj
                obtain ⟨l3, hj⟩ := hj
                obtain ⟨l4, hj⟩ := hj
                obtain ⟨l5, hj⟩ := hj
                obtain ⟨l6, hj⟩ := hj
                obtain ⟨l7, hj⟩ := hj
                obtain ⟨l8, hj⟩ := hj
                obtain ⟨l9, hj⟩ := hj
                obtain ⟨l10, hj⟩ := hj
                obtain ⟨l11, hj⟩ := hj
                obtain ⟨l12, hj⟩ := hj
                obtain ⟨l13, hj⟩ := hj
                obtain ⟨l14, hj⟩ := hj
                obtain ⟨l15, hj⟩ := hj
                obtain ⟨l16, hj⟩ := hj
                obtain ⟨l17, hj⟩ := hj
                obtain ⟨l18, hj⟩ := hj
                obtain ⟨l19, hj⟩ := hj
                obtain ⟨l20, hj⟩ := hj
                obtain ⟨l21, hj⟩ := hj
                obtain ⟨l22, hj⟩ := hj
                obtain ⟨l23, hj⟩ := hj
                obtain ⟨l24, hj⟩ := hj
                obtain ⟨l25, hj⟩ := hj
                obtain ⟨l26, hj⟩ := hj
                obtain ⟨t41, hj⟩ := hj
                obtain ⟨t42, hj⟩ := hj
                obtain ⟨t43, hj⟩ := hj
                obtain ⟨t44, hj⟩ := hj
                obtain ⟨t45, hj⟩ := hj
                obtain ⟨t46, hj⟩ := hj
                obtain ⟨t47, hj⟩ := hj
                obtain ⟨t48, hj⟩ := hj
                obtain ⟨t49, hj⟩ := hj
                obtain ⟨t50, hj⟩ := hj
                obtain ⟨t51, hj⟩ := hj
                obtain ⟨t52, hj⟩ := hj
                obtain ⟨t53, hj⟩ := hj
                obtain ⟨t54, hj⟩ := hj
                obtain ⟨t55, hj⟩ := hj
                obtain ⟨t56, hj⟩ := hj
                obtain ⟨t57, hj⟩ := hj
                obtain ⟨t58, hj⟩ := hj
                obtain ⟨t59, hj⟩ := hj
                obtain ⟨t60, hj⟩ := hj
                obtain ⟨t61, hj⟩ := hj
                obtain ⟨t62, hj⟩ := hj
                obtain ⟨t63, hj⟩ := hj
                obtain ⟨t64, hj⟩ := hj
                obtain ⟨t65, hj⟩ := hj
                obtain ⟨t66, hj⟩ := hj
                obtain ⟨t67, hj⟩ := hj
                obtain ⟨hl_, hj⟩ := hj
                obtain ⟨ha_, hj⟩ := hj
                obtain ⟨H0, hj⟩ := hj
                obtain ⟨H1, hj⟩ := hj
                obtain ⟨H2, hj⟩ := hj
                obtain ⟨H3, hj⟩ := hj
                obtain ⟨H4, hj⟩ := hj
                obtain ⟨H5, hj⟩ := hj
                obtain ⟨H6, hj⟩ := hj
                obtain ⟨H7, hj⟩ := hj
                obtain ⟨H8, hj⟩ := hj
                obtain ⟨H9, hj⟩ := hj
                obtain ⟨H10, hj⟩ := hj
                obtain ⟨H11, hj⟩ := hj
                obtain ⟨H12, hj⟩ := hj
                obtain ⟨H13, hj⟩ := hj
                obtain ⟨H14, hj⟩ := hj
                obtain ⟨H15, hj⟩ := hj
                obtain ⟨H16, hj⟩ := hj
                obtain ⟨H17, hj⟩ := hj
                obtain ⟨H18, hj⟩ := hj
                obtain ⟨H19, hj⟩ := hj
                obtain ⟨H20, hj⟩ := hj
                obtain ⟨H21, hj⟩ := hj
                obtain ⟨H22, hj⟩ := hj
                obtain ⟨H23, hj⟩ := hj
                obtain ⟨H24, hj⟩ := hj
                obtain ⟨H25, hj⟩ := hj
                obtain ⟨H26, hj⟩ := hj
                have HS := hj
                clear hj
                subst hl_
                subst ha_
                rcases (show ∀ i : Nat, i < 27 → (i = 0 ∨ i = 1 ∨ i = 2 ∨ i = 3 ∨ i = 4 ∨ i = 5 ∨ i = 6 ∨ i = 7 ∨ i = 8 ∨ i = 9 ∨ i = 10 ∨ i = 11 ∨ i = 12 ∨ i = 13 ∨ i = 14 ∨ i = 15 ∨ i = 16 ∨ i = 17 ∨ i = 18 ∨ i = 19 ∨ i = 20 ∨ i = 21 ∨ i = 22 ∨ i = 23 ∨ i = 24 ∨ i = 25 ∨ i = 26) by decide) i hlt with rfl | rfl | rfl | rfl | rfl | rfl | rfl | rfl | rfl | rfl | rfl | rfl | rfl | rfl | rfl | rfl | rfl | rfl | rfl | rfl | rfl | rfl | rfl | rfl | rfl | rfl | rfl
                · have haf := haf _ rfl
                  clear haf
                  have hu : l0 = false := hu
                  refine wpOp_of_list_any rfl fun QQ hQ => ?_
                  have hQQ := Lib.hid hQ
                  clear hQ
                  simp only [List.getElem_toArray, List.getElem_cons_zero]
                  go_wp2_with fail
                  exact hQQ.out _ _ ⟨true, l1, l2, l3, l4, l5, l6, l7, l8, l9, l10, l11, l12, l13, l14, l15, l16, l17, l18, l19, l20, l21, l22, l23, l24, l25, l26, _, _, _, _, _, _, _, _, _, _, _, _, _, _, _, _, _, _, _, _, _, _, _, _, _, _, _, rfl, rfl, Lib.hid (fun _ => rfl), H1, H2, H3, H4, H5, H6, H7, H8, H9, H10, H11, H12, H13, H14, H15, H16, H17, H18, H19, H20, H21, H22, H23, H24, H25, H26, HS⟩
                · have haf := haf _ rfl
                  have q0 : l0 = true := haf ⟨0, Go.Ground.data⟩ (by simp) rfl
                  clear haf
                  have hu : l1 = false := hu
                  have e0 := (H0.out q0)
                  subst e0
                  clear H0
                  have hc : x.cell? ⟨w.heap.size, 2, none⟩ = some (.slice (some ⟨g2, 0, none⟩) m c2) := (HS.out.blk HB.out hSb).cell 2
                  refine wpOp_of_list_any rfl fun QQ hQ => ?_
                  have hQQ := Lib.hid hQ
                  clear hQ
                  simp only [List.getElem_toArray, List.getElem_cons_zero, List.getElem_cons_succ]
                  go_wp2_with fail
                  exact hQQ.out _ _ ⟨l0, true, l2, l3, l4, l5, l6, l7, l8, l9, l10, l11, l12, l13, l14, l15, l16, l17, l18, l19, l20, l21, l22, l23, l24, l25, l26, _, _, _, _, _, _, _, _, _, _, _, _, _, _, _, _, _, _, _, _, _, _, _, _, _, _, _, rfl, rfl, Lib.hid (fun _ => rfl), Lib.hid (fun _ => rfl), H2, H3, H4, H5, H6, H7, H8, H9, H10, H11, H12, H13, H14, H15, H16, H17, H18, H19, H20, H21, H22, H23, H24, H25, H26, HS⟩
                · have haf := haf _ rfl
                  clear haf
                  have hu : l2 = false := hu
                  refine wpOp_of_list_any rfl fun QQ hQ => ?_
                  have hQQ := Lib.hid hQ
                  clear hQ
                  simp only [List.getElem_toArray, List.getElem_cons_zero, List.getElem_cons_succ]
                  go_wp2_with fail
                  exact hQQ.out _ _ ⟨l0, l1, true, l3, l4, l5, l6, l7, l8, l9, l10, l11, l12, l13, l14, l15, l16, l17, l18, l19, l20, l21, l22, l23, l24, l25, l26, _, _, _, _, _, _, _, _, _, _, _, _, _, _, _, _, _, _, _, _, _, _, _, _, _, _, _, rfl, rfl, H0, H1, Lib.hid (fun _ => rfl), H3, H4, H5, H6, H7, H8, H9, H10, H11, H12, H13, H14, H15, H16, H17, H18, H19, H20, H21, H22, H23, H24, H25, H26, HS⟩
                · have haf := haf _ rfl
                  have q2 : l2 = true := haf ⟨2, Go.Ground.data⟩ (by simp) rfl
                  clear haf
                  have hu : l3 = false := hu
                  have e2 := (H2.out q2)
                  subst e2
                  clear H2
                  have hc : x.cell? ⟨w.heap.size, 2, none⟩ = some (.slice (some ⟨g2, 0, none⟩) m c2) := (HS.out.blk HB.out hSb).cell 2
                  refine wpOp_of_list_any rfl fun QQ hQ => ?_
                  have hQQ := Lib.hid hQ
                  clear hQ
                  simp only [List.getElem_toArray, List.getElem_cons_zero, List.getElem_cons_succ]
                  go_wp2_with fail
                  exact hQQ.out _ _ ⟨l0, l1, l2, true, l4, l5, l6, l7, l8, l9, l10, l11, l12, l13, l14, l15, l16, l17, l18, l19, l20, l21, l22, l23, l24, l25, l26, _, _, _, _, _, _, _, _, _, _, _, _, _, _, _, _, _, _, _, _, _, _, _, _, _, _, _, rfl, rfl, H0, H1, Lib.hid (fun _ => rfl), Lib.hid (fun _ => rfl), H4, H5, H6, H7, H8, H9, H10, H11, H12, H13, H14, H15, H16, H17, H18, H19, H20, H21, H22, H23, H24, H25, H26, HS⟩
                · have haf := haf _ rfl
                  clear haf
                  have hu : l4 = false := hu
                  refine wpOp_of_list_any rfl fun QQ hQ => ?_
                  have hQQ := Lib.hid hQ
                  clear hQ
                  simp only [List.getElem_toArray, List.getElem_cons_zero, List.getElem_cons_succ]
                  go_wp2_with fail
                  exact hQQ.out _ _ ⟨l0, l1, l2, l3, true, l5, l6, l7, l8, l9, l10, l11, l12, l13, l14, l15, l16, l17, l18, l19, l20, l21, l22, l23, l24, l25, l26, _, _, _, _, _, _, _, _, _, _, _, _, _, _, _, _, _, _, _, _, _, _, _, _, _, _, _, rfl, rfl, H0, H1, H2, H3, Lib.hid (fun _ => rfl), H5, H6, H7, H8, H9, H10, H11, H12, H13, H14, H15, H16, H17, H18, H19, H20, H21, H22, H23, H24, H25, H26, HS⟩
                · have haf := haf _ rfl
                  have q4 : l4 = true := haf ⟨4, Go.Ground.data⟩ (by simp) rfl
                  clear haf
                  have hu : l5 = false := hu
                  have e4 := (H4.out q4)
                  subst e4
                  clear H4
                  refine wpOp_of_list_any rfl fun QQ hQ => ?_
                  have hQQ := Lib.hid hQ
                  clear hQ
                  simp only [List.getElem_toArray, List.getElem_cons_zero, List.getElem_cons_succ]
                  go_wp2_with fail
                  exact hQQ.out _ _ ⟨l0, l1, l2, l3, l4, true, l6, l7, l8, l9, l10, l11, l12, l13, l14, l15, l16, l17, l18, l19, l20, l21, l22, l23, l24, l25, l26, _, _, _, _, _, _, _, _, _, _, _, _, _, _, _, _, _, _, _, _, _, _, _, _, _, _, _, rfl, rfl, H0, H1, H2, H3, Lib.hid (fun _ => rfl), Lib.hid (fun _ => rfl), H6, H7, H8, H9, H10, H11, H12, H13, H14, H15, H16, H17, H18, H19, H20, H21, H22, H23, H24, H25, H26, HS⟩
                · have haf := haf _ rfl
                  have q3 : l3 = true := haf ⟨3, Go.Ground.data⟩ (by simp) rfl
                  have q5 : l5 = true := haf ⟨5, Go.Ground.data⟩ (by simp) rfl
                  clear haf
                  have hu : l6 = false := hu
                  have e3 := (H3.out q3)
                  subst e3
                  clear H3
                  have e5 := (H5.out q5)
                  subst e5
                  clear H5
                  refine wpOp_of_list_any rfl fun QQ hQ => ?_
                  have hQQ := Lib.hid hQ
                  clear hQ
                  simp only [List.getElem_toArray, List.getElem_cons_zero, List.getElem_cons_succ]
                  go_wp2_with fail
                  exact hQQ.out _ _ ⟨l0, l1, l2, l3, l4, l5, true, l7, l8, l9, l10, l11, l12, l13, l14, l15, l16, l17, l18, l19, l20, l21, l22, l23, l24, l25, l26, _, _, _, _, _, _, _, _, _, _, _, _, _, _, _, _, _, _, _, _, _, _, _, _, _, _, _, rfl, rfl, H0, H1, H2, Lib.hid (fun _ => rfl), H4, Lib.hid (fun _ => rfl), Lib.hid (fun _ => ⟨_, rfl, Lib.hid (by omega)⟩), H7, H8, H9, H10, H11, H12, H13, H14, H15, H16, H17, H18, H19, H20, H21, H22, H23, H24, H25, H26, HS⟩
                · have haf := haf _ rfl
                  have q6 : l6 = true := haf ⟨6, Go.Ground.data⟩ (by simp) rfl
                  clear haf
                  have hu : l7 = false := hu
                  obtain ⟨o6, e6, c6_0⟩ := (H6.out q6)
                  subst e6
                  clear H6
                  refine wpOp_of_list_any rfl fun QQ hQ => ?_
                  have hQQ := Lib.hid hQ
                  clear hQ
                  simp only [List.getElem_toArray, List.getElem_cons_zero, List.getElem_cons_succ]
                  go_wp2_with fail
                  exact hQQ.out _ _ ⟨l0, l1, l2, l3, l4, l5, l6, true, l8, l9, l10, l11, l12, l13, l14, l15, l16, l17, l18, l19, l20, l21, l22, l23, l24, l25, l26, _, _, _, _, _, _, _, _, _, _, _, _, _, _, _, _, _, _, _, _, _, _, _, _, _, _, _, rfl, rfl, H0, H1, H2, H3, H4, H5, Lib.hid (fun _ => ⟨o6, rfl, c6_0⟩), Lib.hid (fun _ => ⟨_, rfl, c6_0⟩), H8, H9, H10, H11, H12, H13, H14, H15, H16, H17, H18, H19, H20, H21, H22, H23, H24, H25, H26, HS⟩
                · have haf := haf _ rfl
                  have q7 : l7 = true := haf ⟨7, Go.Ground.data⟩ (by simp) rfl
                  clear haf
                  have hu : l8 = false := hu
                  obtain ⟨o7, e7, c7_0⟩ := (H7.out q7)
                  subst e7
                  clear H7
                  have hc : x.cell? ⟨g2, o7, none⟩ = some (.int .i64 a0) := by rw [c7_0.out]; exact (HS.out.but.cell (p := ⟨g2, (L - 1) * 2, none⟩) hg2w hg2b).trans Hca.out
                  refine wpOp_of_list_any rfl fun QQ hQ => ?_
                  have hQQ := Lib.hid hQ
                  clear hQ
                  simp only [List.getElem_toArray, List.getElem_cons_zero, List.getElem_cons_succ]
                  go_wp2_with fail
                  exact hQQ.out _ _ ⟨l0, l1, l2, l3, l4, l5, l6, l7, true, l9, l10, l11, l12, l13, l14, l15, l16, l17, l18, l19, l20, l21, l22, l23, l24, l25, l26, _, _, _, _, _, _, _, _, _, _, _, _, _, _, _, _, _, _, _, _, _, _, _, _, _, _, _, rfl, rfl, H0, H1, H2, H3, H4, H5, H6, Lib.hid (fun _ => ⟨o7, rfl, c7_0⟩), Lib.hid (fun _ => rfl), H9, H10, H11, H12, H13, H14, H15, H16, H17, H18, H19, H20, H21, H22, H23, H24, H25, H26, HS⟩
                · have haf := haf _ rfl
                  clear haf
                  have hu : l9 = false := hu
                  refine wpOp_of_list_any rfl fun QQ hQ => ?_
                  have hQQ := Lib.hid hQ
                  clear hQ
                  simp only [List.getElem_toArray, List.getElem_cons_zero, List.getElem_cons_succ]
                  go_wp2_with fail
                  exact hQQ.out _ _ ⟨l0, l1, l2, l3, l4, l5, l6, l7, l8, true, l10, l11, l12, l13, l14, l15, l16, l17, l18, l19, l20, l21, l22, l23, l24, l25, l26, _, _, _, _, _, _, _, _, _, _, _, _, _, _, _, _, _, _, _, _, _, _, _, _, _, _, _, rfl, rfl, H0, H1, H2, H3, H4, H5, H6, H7, H8, Lib.hid (fun _ => rfl), H10, H11, H12, H13, H14, H15, H16, H17, H18, H19, H20, H21, H22, H23, H24, H25, H26, HS⟩
                · have haf := haf _ rfl
                  have q9 : l9 = true := haf ⟨9, Go.Ground.data⟩ (by simp) rfl
                  clear haf
                  have hu : l10 = false := hu
                  have e9 := (H9.out q9)
                  subst e9
                  clear H9
                  refine wpOp_of_list_any rfl fun QQ hQ => ?_
                  have hQQ := Lib.hid hQ
                  clear hQ
                  simp only [List.getElem_toArray, List.getElem_cons_zero, List.getElem_cons_succ]
                  go_wp2_with fail
                  exact hQQ.out _ _ ⟨l0, l1, l2, l3, l4, l5, l6, l7, l8, l9, true, l11, l12, l13, l14, l15, l16, l17, l18, l19, l20, l21, l22, l23, l24, l25, l26, _, _, _, _, _, _, _, _, _, _, _, _, _, _, _, _, _, _, _, _, _, _, _, _, _, _, _, rfl, rfl, H0, H1, H2, H3, H4, H5, H6, H7, H8, Lib.hid (fun _ => rfl), Lib.hid (fun _ => ⟨_, rfl, by omega, by omega⟩), H11, H12, H13, H14, H15, H16, H17, H18, H19, H20, H21, H22, H23, H24, H25, H26, HS⟩
                · have haf := haf _ rfl
                  have q10 : l10 = true := haf ⟨10, Go.Ground.data⟩ (by simp) rfl
                  clear haf
                  have hu : l11 = false := hu
                  obtain ⟨n10, e10, c10_0, c10_1⟩ := (H10.out q10)
                  subst e10
                  clear H10
                  refine wpOp_of_list_any rfl fun QQ hQ => ?_
                  have hQQ := Lib.hid hQ
                  clear hQ
                  simp only [List.getElem_toArray, List.getElem_cons_zero, List.getElem_cons_succ]
                  go_wp2_with fail
                  exact hQQ.out _ _ ⟨l0, l1, l2, l3, l4, l5, l6, l7, l8, l9, l10, true, l12, l13, l14, l15, l16, l17, l18, l19, l20, l21, l22, l23, l24, l25, l26, _, _, _, _, _, _, _, _, _, _, _, _, _, _, _, _, _, _, _, _, _, _, _, _, _, _, _, rfl, rfl, H0, H1, H2, H3, H4, H5, H6, H7, H8, H9, Lib.hid (fun _ => ⟨n10, rfl, c10_0, c10_1⟩), Lib.hid (fun _ => ⟨_, rfl⟩), H12, H13, H14, H15, H16, H17, H18, H19, H20, H21, H22, H23, H24, H25, H26, HS⟩
                · have haf := haf _ rfl
                  have q8 : l8 = true := haf ⟨8, Go.Ground.data⟩ (by simp) rfl
                  have q11 : l11 = true := haf ⟨11, Go.Ground.data⟩ (by simp) rfl
                  clear haf
                  have hu : l12 = false := hu
                  have e8 := (H8.out q8)
                  subst e8
                  clear H8
                  obtain ⟨n11, e11⟩ := (H11.out q11)
                  subst e11
                  clear H11
                  refine wpOp_of_list_any rfl fun QQ hQ => ?_
                  have hQQ := Lib.hid hQ
                  clear hQ
                  simp only [List.getElem_toArray, List.getElem_cons_zero, List.getElem_cons_succ]
                  go_wp2_with fail
                  exact hQQ.out _ _ ⟨l0, l1, l2, l3, l4, l5, l6, l7, l8, l9, l10, l11, true, l13, l14, l15, l16, l17, l18, l19, l20, l21, l22, l23, l24, l25, l26, _, _, _, _, _, _, _, _, _, _, _, _, _, _, _, _, _, _, _, _, _, _, _, _, _, _, _, rfl, rfl, H0, H1, H2, H3, H4, H5, H6, H7, Lib.hid (fun _ => rfl), H9, H10, Lib.hid (fun _ => ⟨n11, rfl⟩), Lib.hid (fun _ => ⟨_, rfl⟩), H13, H14, H15, H16, H17, H18, H19, H20, H21, H22, H23, H24, H25, H26, HS⟩
                · have haf := haf _ rfl
                  clear haf
                  have hu : l13 = false := hu
                  refine wpOp_of_list_any rfl fun QQ hQ => ?_
                  have hQQ := Lib.hid hQ
                  clear hQ
                  simp only [List.getElem_toArray, List.getElem_cons_zero, List.getElem_cons_succ]
                  go_wp2_with fail
                  exact hQQ.out _ _ ⟨l0, l1, l2, l3, l4, l5, l6, l7, l8, l9, l10, l11, l12, true, l14, l15, l16, l17, l18, l19, l20, l21, l22, l23, l24, l25, l26, _, _, _, _, _, _, _, _, _, _, _, _, _, _, _, _, _, _, _, _, _, _, _, _, _, _, _, rfl, rfl, H0, H1, H2, H3, H4, H5, H6, H7, H8, H9, H10, H11, H12, Lib.hid (fun _ => rfl), H14, H15, H16, H17, H18, H19, H20, H21, H22, H23, H24, H25, H26, HS⟩
                · have haf := haf _ rfl
                  have q13 : l13 = true := haf ⟨13, Go.Ground.data⟩ (by simp) rfl
                  clear haf
                  have hu : l14 = false := hu
                  have e13 := (H13.out q13)
                  subst e13
                  clear H13
                  have hc : x.cell? ⟨w.heap.size, 2, none⟩ = some (.slice (some ⟨g2, 0, none⟩) m c2) := (HS.out.blk HB.out hSb).cell 2
                  refine wpOp_of_list_any rfl fun QQ hQ => ?_
                  have hQQ := Lib.hid hQ
                  clear hQ
                  simp only [List.getElem_toArray, List.getElem_cons_zero, List.getElem_cons_succ]
                  go_wp2_with fail
                  exact hQQ.out _ _ ⟨l0, l1, l2, l3, l4, l5, l6, l7, l8, l9, l10, l11, l12, l13, true, l15, l16, l17, l18, l19, l20, l21, l22, l23, l24, l25, l26, _, _, _, _, _, _, _, _, _, _, _, _, _, _, _, _, _, _, _, _, _, _, _, _, _, _, _, rfl, rfl, H0, H1, H2, H3, H4, H5, H6, H7, H8, H9, H10, H11, H12, Lib.hid (fun _ => rfl), Lib.hid (fun _ => rfl), H15, H16, H17, H18, H19, H20, H21, H22, H23, H24, H25, H26, HS⟩
                · have haf := haf _ rfl
                  clear haf
                  have hu : l15 = false := hu
                  refine wpOp_of_list_any rfl fun QQ hQ => ?_
                  have hQQ := Lib.hid hQ
                  clear hQ
                  simp only [List.getElem_toArray, List.getElem_cons_zero, List.getElem_cons_succ]
                  go_wp2_with fail
                  exact hQQ.out _ _ ⟨l0, l1, l2, l3, l4, l5, l6, l7, l8, l9, l10, l11, l12, l13, l14, true, l16, l17, l18, l19, l20, l21, l22, l23, l24, l25, l26, _, _, _, _, _, _, _, _, _, _, _, _, _, _, _, _, _, _, _, _, _, _, _, _, _, _, _, rfl, rfl, H0, H1, H2, H3, H4, H5, H6, H7, H8, H9, H10, H11, H12, H13, H14, Lib.hid (fun _ => rfl), H16, H17, H18, H19, H20, H21, H22, H23, H24, H25, H26, HS⟩
                · have haf := haf _ rfl
                  have q15 : l15 = true := haf ⟨15, Go.Ground.data⟩ (by simp) rfl
                  clear haf
                  have hu : l16 = false := hu
                  have e15 := (H15.out q15)
                  subst e15
                  clear H15
                  refine wpOp_of_list_any rfl fun QQ hQ => ?_
                  have hQQ := Lib.hid hQ
                  clear hQ
                  simp only [List.getElem_toArray, List.getElem_cons_zero, List.getElem_cons_succ]
                  go_wp2_with fail
                  exact hQQ.out _ _ ⟨l0, l1, l2, l3, l4, l5, l6, l7, l8, l9, l10, l11, l12, l13, l14, l15, true, l17, l18, l19, l20, l21, l22, l23, l24, l25, l26, _, _, _, _, _, _, _, _, _, _, _, _, _, _, _, _, _, _, _, _, _, _, _, _, _, _, _, rfl, rfl, H0, H1, H2, H3, H4, H5, H6, H7, H8, H9, H10, H11, H12, H13, H14, Lib.hid (fun _ => rfl), Lib.hid (fun _ => rfl), H17, H18, H19, H20, H21, H22, H23, H24, H25, H26, HS⟩
                · have haf := haf _ rfl
                  have q14 : l14 = true := haf ⟨14, Go.Ground.data⟩ (by simp) rfl
                  have q16 : l16 = true := haf ⟨16, Go.Ground.data⟩ (by simp) rfl
                  clear haf
                  have hu : l17 = false := hu
                  have e14 := (H14.out q14)
                  subst e14
                  clear H14
                  have e16 := (H16.out q16)
                  subst e16
                  clear H16
                  refine wpOp_of_list_any rfl fun QQ hQ => ?_
                  have hQQ := Lib.hid hQ
                  clear hQ
                  simp only [List.getElem_toArray, List.getElem_cons_zero, List.getElem_cons_succ]
                  go_wp2_with fail
                  exact hQQ.out _ _ ⟨l0, l1, l2, l3, l4, l5, l6, l7, l8, l9, l10, l11, l12, l13, l14, l15, l16, true, l18, l19, l20, l21, l22, l23, l24, l25, l26, _, _, _, _, _, _, _, _, _, _, _, _, _, _, _, _, _, _, _, _, _, _, _, _, _, _, _, rfl, rfl, H0, H1, H2, H3, H4, H5, H6, H7, H8, H9, H10, H11, H12, H13, Lib.hid (fun _ => rfl), H15, Lib.hid (fun _ => rfl), Lib.hid (fun _ => ⟨_, rfl, Lib.hid (by omega)⟩), H18, H19, H20, H21, H22, H23, H24, H25, H26, HS⟩
                · have haf := haf _ rfl
                  have q17 : l17 = true := haf ⟨17, Go.Ground.data⟩ (by simp) rfl
                  clear haf
                  have hu : l18 = false := hu
                  obtain ⟨o17, e17, c17_0⟩ := (H17.out q17)
                  subst e17
                  clear H17
                  refine wpOp_of_list_any rfl fun QQ hQ => ?_
                  have hQQ := Lib.hid hQ
                  clear hQ
                  simp only [List.getElem_toArray, List.getElem_cons_zero, List.getElem_cons_succ]
                  go_wp2_with fail
                  exact hQQ.out _ _ ⟨l0, l1, l2, l3, l4, l5, l6, l7, l8, l9, l10, l11, l12, l13, l14, l15, l16, l17, true, l19, l20, l21, l22, l23, l24, l25, l26, _, _, _, _, _, _, _, _, _, _, _, _, _, _, _, _, _, _, _, _, _, _, _, _, _, _, _, rfl, rfl, H0, H1, H2, H3, H4, H5, H6, H7, H8, H9, H10, H11, H12, H13, H14, H15, H16, Lib.hid (fun _ => ⟨o17, rfl, c17_0⟩), Lib.hid (fun _ => ⟨_, rfl, Lib.hid (by rw [c17_0.out])⟩), H19, H20, H21, H22, H23, H24, H25, H26, HS⟩
                · have haf := haf _ rfl
                  have q18 : l18 = true := haf ⟨18, Go.Ground.data⟩ (by simp) rfl
                  clear haf
                  have hu : l19 = false := hu
                  obtain ⟨o18, e18, c18_0⟩ := (H18.out q18)
                  subst e18
                  clear H18
                  have hc : x.cell? ⟨g2, o18, none⟩ = some (.int .i64 o0) := by rw [c18_0.out]; exact (HS.out.but.cell (p := ⟨g2, (L - 1) * 2 + 1, none⟩) hg2w hg2b).trans Hco.out
                  refine wpOp_of_list_any rfl fun QQ hQ => ?_
                  have hQQ := Lib.hid hQ
                  clear hQ
                  simp only [List.getElem_toArray, List.getElem_cons_zero, List.getElem_cons_succ]
                  go_wp2_with fail
                  exact hQQ.out _ _ ⟨l0, l1, l2, l3, l4, l5, l6, l7, l8, l9, l10, l11, l12, l13, l14, l15, l16, l17, l18, true, l20, l21, l22, l23, l24, l25, l26, _, _, _, _, _, _, _, _, _, _, _, _, _, _, _, _, _, _, _, _, _, _, _, _, _, _, _, rfl, rfl, H0, H1, H2, H3, H4, H5, H6, H7, H8, H9, H10, H11, H12, H13, H14, H15, H16, H17, Lib.hid (fun _ => ⟨o18, rfl, c18_0⟩), Lib.hid (fun _ => rfl), H20, H21, H22, H23, H24, H25, H26, HS⟩
                · have haf := haf _ rfl
                  clear haf
                  have hu : l20 = false := hu
                  refine wpOp_of_list_any rfl fun QQ hQ => ?_
                  have hQQ := Lib.hid hQ
                  clear hQ
                  simp only [List.getElem_toArray, List.getElem_cons_zero, List.getElem_cons_succ]
                  go_wp2_with fail
                  exact hQQ.out _ _ ⟨l0, l1, l2, l3, l4, l5, l6, l7, l8, l9, l10, l11, l12, l13, l14, l15, l16, l17, l18, l19, true, l21, l22, l23, l24, l25, l26, _, _, _, _, _, _, _, _, _, _, _, _, _, _, _, _, _, _, _, _, _, _, _, _, _, _, _, rfl, rfl, H0, H1, H2, H3, H4, H5, H6, H7, H8, H9, H10, H11, H12, H13, H14, H15, H16, H17, H18, H19, Lib.hid (fun _ => rfl), H21, H22, H23, H24, H25, H26, HS⟩
                · have haf := haf _ rfl
                  have q20 : l20 = true := haf ⟨20, Go.Ground.data⟩ (by simp) rfl
                  clear haf
                  have hu : l21 = false := hu
                  have e20 := (H20.out q20)
                  subst e20
                  clear H20
                  refine wpOp_of_list_any rfl fun QQ hQ => ?_
                  have hQQ := Lib.hid hQ
                  clear hQ
                  simp only [List.getElem_toArray, List.getElem_cons_zero, List.getElem_cons_succ]
                  go_wp2_with fail
                  exact hQQ.out _ _ ⟨l0, l1, l2, l3, l4, l5, l6, l7, l8, l9, l10, l11, l12, l13, l14, l15, l16, l17, l18, l19, l20, true, l22, l23, l24, l25, l26, _, _, _, _, _, _, _, _, _, _, _, _, _, _, _, _, _, _, _, _, _, _, _, _, _, _, _, rfl, rfl, H0, H1, H2, H3, H4, H5, H6, H7, H8, H9, H10, H11, H12, H13, H14, H15, H16, H17, H18, H19, Lib.hid (fun _ => rfl), Lib.hid (fun _ => ⟨_, rfl, by omega, by omega⟩), H22, H23, H24, H25, H26, HS⟩
                · have haf := haf _ rfl
                  have q21 : l21 = true := haf ⟨21, Go.Ground.data⟩ (by simp) rfl
                  clear haf
                  have hu : l22 = false := hu
                  obtain ⟨n21, e21, c21_0, c21_1⟩ := (H21.out q21)
                  subst e21
                  clear H21
                  refine wpOp_of_list_any rfl fun QQ hQ => ?_
                  have hQQ := Lib.hid hQ
                  clear hQ
                  simp only [List.getElem_toArray, List.getElem_cons_zero, List.getElem_cons_succ]
                  go_wp2_with fail
                  exact hQQ.out _ _ ⟨l0, l1, l2, l3, l4, l5, l6, l7, l8, l9, l10, l11, l12, l13, l14, l15, l16, l17, l18, l19, l20, l21, true, l23, l24, l25, l26, _, _, _, _, _, _, _, _, _, _, _, _, _, _, _, _, _, _, _, _, _, _, _, _, _, _, _, rfl, rfl, H0, H1, H2, H3, H4, H5, H6, H7, H8, H9, H10, H11, H12, H13, H14, H15, H16, H17, H18, H19, H20, Lib.hid (fun _ => ⟨n21, rfl, c21_0, c21_1⟩), Lib.hid (fun _ => ⟨_, rfl⟩), H23, H24, H25, H26, HS⟩
                · have haf := haf _ rfl
                  have q22 : l22 = true := haf ⟨22, Go.Ground.data⟩ (by simp) rfl
                  clear haf
                  have hu : l23 = false := hu
                  obtain ⟨n22, e22⟩ := (H22.out q22)
                  subst e22
                  clear H22
                  refine wpOp_of_list_any rfl fun QQ hQ => ?_
                  have hQQ := Lib.hid hQ
                  clear hQ
                  simp only [List.getElem_toArray, List.getElem_cons_zero, List.getElem_cons_succ]
                  go_wp2_with fail
                  exact hQQ.out _ _ ⟨l0, l1, l2, l3, l4, l5, l6, l7, l8, l9, l10, l11, l12, l13, l14, l15, l16, l17, l18, l19, l20, l21, l22, true, l24, l25, l26, _, _, _, _, _, _, _, _, _, _, _, _, _, _, _, _, _, _, _, _, _, _, _, _, _, _, _, rfl, rfl, H0, H1, H2, H3, H4, H5, H6, H7, H8, H9, H10, H11, H12, H13, H14, H15, H16, H17, H18, H19, H20, H21, Lib.hid (fun _ => ⟨n22, rfl⟩), Lib.hid (fun _ => ⟨_, rfl⟩), H24, H25, H26, HS⟩
                · have haf := haf _ rfl
                  have q19 : l19 = true := haf ⟨19, Go.Ground.data⟩ (by simp) rfl
                  have q23 : l23 = true := haf ⟨23, Go.Ground.data⟩ (by simp) rfl
                  clear haf
                  have hu : l24 = false := hu
                  have e19 := (H19.out q19)
                  subst e19
                  clear H19
                  obtain ⟨n23, e23⟩ := (H23.out q23)
                  subst e23
                  clear H23
                  refine wpOp_of_list_any rfl fun QQ hQ => ?_
                  have hQQ := Lib.hid hQ
                  clear hQ
                  simp only [List.getElem_toArray, List.getElem_cons_zero, List.getElem_cons_succ]
                  go_wp2_with fail
                  exact hQQ.out _ _ ⟨l0, l1, l2, l3, l4, l5, l6, l7, l8, l9, l10, l11, l12, l13, l14, l15, l16, l17, l18, l19, l20, l21, l22, l23, true, l25, l26, _, _, _, _, _, _, _, _, _, _, _, _, _, _, _, _, _, _, _, _, _, _, _, _, _, _, _, rfl, rfl, H0, H1, H2, H3, H4, H5, H6, H7, H8, H9, H10, H11, H12, H13, H14, H15, H16, H17, H18, Lib.hid (fun _ => rfl), H20, H21, H22, Lib.hid (fun _ => ⟨n23, rfl⟩), Lib.hid (fun _ => ⟨_, rfl⟩), H25, H26, HS⟩
                · have haf := haf _ rfl
                  have q12 : l12 = true := haf ⟨12, Go.Ground.data⟩ (by simp) rfl
                  have q24 : l24 = true := haf ⟨24, Go.Ground.data⟩ (by simp) rfl
                  clear haf
                  have hu : l25 = false := hu
                  obtain ⟨n12, e12⟩ := (H12.out q12)
                  subst e12
                  clear H12
                  obtain ⟨n24, e24⟩ := (H24.out q24)
                  subst e24
                  clear H24
                  refine wpOp_of_list_any rfl fun QQ hQ => ?_
                  have hQQ := Lib.hid hQ
                  clear hQ
                  simp only [List.getElem_toArray, List.getElem_cons_zero, List.getElem_cons_succ]
                  go_wp2_with fail
                  exact hQQ.out _ _ ⟨l0, l1, l2, l3, l4, l5, l6, l7, l8, l9, l10, l11, l12, l13, l14, l15, l16, l17, l18, l19, l20, l21, l22, l23, l24, true, l26, _, _, _, _, _, _, _, _, _, _, _, _, _, _, _, _, _, _, _, _, _, _, _, _, _, _, _, rfl, rfl, H0, H1, H2, H3, H4, H5, H6, H7, H8, H9, H10, H11, Lib.hid (fun _ => ⟨n12, rfl⟩), H13, H14, H15, H16, H17, H18, H19, H20, H21, H22, H23, Lib.hid (fun _ => ⟨n24, rfl⟩), Lib.hid (fun _ => ⟨_, _, rfl⟩), H26, HS⟩
                · have haf := haf _ rfl
                  have q25 : l25 = true := haf ⟨25, Go.Ground.data⟩ (by simp) rfl
                  clear haf
                  have hu : l26 = false := hu
                  obtain ⟨a25, d25, e25⟩ := (H25.out q25)
                  subst e25
                  clear H25
                  refine wpOp_of_list_any rfl fun QQ hQ => ?_
                  have hQQ := Lib.hid hQ
                  clear hQ
                  simp only [List.getElem_toArray, List.getElem_cons_zero, List.getElem_cons_succ]
                  go_wp2_with fail
                  exact hQQ.out _ _ ⟨l0, l1, l2, l3, l4, l5, l6, l7, l8, l9, l10, l11, l12, l13, l14, l15, l16, l17, l18, l19, l20, l21, l22, l23, l24, l25, true, _, _, _, _, _, _, _, _, _, _, _, _, _, _, _, _, _, _, _, _, _, _, _, _, _, _, _, rfl, rfl, H0, H1, H2, H3, H4, H5, H6, H7, H8, H9, H10, H11, H12, H13, H14, H15, H16, H17, H18, H19, H20, H21, H22, H23, H24, Lib.hid (fun _ => ⟨a25, d25, rfl⟩), Lib.hid (fun _ => ⟨_, _, _, rfl, HS.out.but.size, Blk.new x _ _⟩), Lib.hid (HS.out.alloc _)⟩
              · intro listed a x hj hall
                obtain ⟨l0, hj⟩ := hj
                obtain ⟨l1, hj⟩ := hj
                obtain ⟨l2, hj⟩ := hj
                obtain ⟨l3, hj⟩ := hj
                obtain ⟨l4, hj⟩ := hj
                obtain ⟨l5, hj⟩ := hj
                obtain ⟨l6, hj⟩ := hj
                obtain ⟨l7, hj⟩ := hj
                obtain ⟨l8, hj⟩ := hj
                obtain ⟨l9, hj⟩ := hj
                obtain ⟨l10, hj⟩ := hj
                obtain ⟨l11, hj⟩ := hj
                obtain ⟨l12, hj⟩ := hj
                obtain ⟨l13, hj⟩ := hj
                obtain ⟨l14, hj⟩ := hj
                obtain ⟨l15, hj⟩ := hj
                obtain ⟨l16, hj⟩ := hj
                obtain ⟨l17, hj⟩ := hj
                obtain ⟨l18, hj⟩ := hj
                obtain ⟨l19, hj⟩ := hj
                obtain ⟨l20, hj⟩ := hj
                obtain ⟨l21, hj⟩ := hj
                obtain ⟨l22, hj⟩ := hj
                obtain ⟨l23, hj⟩ := hj
                obtain ⟨l24, hj⟩ := hj
                obtain ⟨l25, hj⟩ := hj
                obtain ⟨l26, hj⟩ := hj
                obtain ⟨t41, hj⟩ := hj
                obtain ⟨t42, hj⟩ := hj
                obtain ⟨t43, hj⟩ := hj
                obtain ⟨t44, hj⟩ := hj
                obtain ⟨t45, hj⟩ := hj
                obtain ⟨t46, hj⟩ := hj
                obtain ⟨t47, hj⟩ := hj
                obtain ⟨t48, hj⟩ := hj
                obtain ⟨t49, hj⟩ := hj
                obtain ⟨t50, hj⟩ := hj
                obtain ⟨t51, hj⟩ := hj
                obtain ⟨t52, hj⟩ := hj
                obtain ⟨t53, hj⟩ := hj
                obtain ⟨t54, hj⟩ := hj
                obtain ⟨t55, hj⟩ := hj
                obtain ⟨t56, hj⟩ := hj
                obtain ⟨t57, hj⟩ := hj
                obtain ⟨t58, hj⟩ := hj
                obtain ⟨t59, hj⟩ := hj
                obtain ⟨t60, hj⟩ := hj
                obtain ⟨t61, hj⟩ := hj
                obtain ⟨t62, hj⟩ := hj
                obtain ⟨t63, hj⟩ := hj
                obtain ⟨t64, hj⟩ := hj
                obtain ⟨t65, hj⟩ := hj
                obtain ⟨t66, hj⟩ := hj
                obtain ⟨t67, hj⟩ := hj
                obtain ⟨hl_, hj⟩ := hj
                obtain ⟨ha_, hj⟩ := hj
                obtain ⟨H0, hj⟩ := hj
                obtain ⟨H1, hj⟩ := hj
                obtain ⟨H2, hj⟩ := hj
                obtain ⟨H3, hj⟩ := hj
                obtain ⟨H4, hj⟩ := hj
                obtain ⟨H5, hj⟩ := hj
                obtain ⟨H6, hj⟩ := hj
                obtain ⟨H7, hj⟩ := hj
                obtain ⟨H8, hj⟩ := hj
                obtain ⟨H9, hj⟩ := hj
                obtain ⟨H10, hj⟩ := hj
                obtain ⟨H11, hj⟩ := hj
                obtain ⟨H12, hj⟩ := hj
                obtain ⟨H13, hj⟩ := hj
                obtain ⟨H14, hj⟩ := hj
                obtain ⟨H15, hj⟩ := hj
                obtain ⟨H16, hj⟩ := hj
                obtain ⟨H17, hj⟩ := hj
                obtain ⟨H18, hj⟩ := hj
                obtain ⟨H19, hj⟩ := hj
                obtain ⟨H20, hj⟩ := hj
                obtain ⟨H21, hj⟩ := hj
                obtain ⟨H22, hj⟩ := hj
                obtain ⟨H23, hj⟩ := hj
                obtain ⟨H24, hj⟩ := hj
                obtain ⟨H25, hj⟩ := hj
                obtain ⟨H26, hj⟩ := hj
                have HS := hj
                clear hj
                subst hl_
                subst ha_
                have q1 : l1 = true := hall 1 (by omega)
                have q26 : l26 = true := hall 26 (by omega)
                clear hall
                have e1 := (H1.out q1)
                subst e1
                obtain ⟨a26, d26, g26, e26, c26_0, c26_1⟩ := (H26.out q26)
                subst e26
                have B3 := HS.out.blk HB.out hSb
                have R3 := HS.out.blk HR.out hRb
                have E3 : x.ownsRow w.heap.size 137 2 (.slice (some ⟨g2, 0, none⟩) m c2) m (zCells sh2) := by have := row_but HE.out hblt HS.out.but; rw [HM.out] at this; exact this
                have K3 := but_then HK.out HS.out.but HK.out.size
                have hsx := K3.size
                refine tail_any (fun a x => ∃ (t41 t42 t43 t44 t45 t46 t47 t48 t49 t50 t51 t52 t53 t54 t55 t56 t57 t58 t59 t60 t61 t62 t63 t64 t65 t66 t67 t68 t69 : Value), a = ⟨(.pointer (some ⟨b, 0, none⟩) :: .agg #[.string n0, .int .i64 v0, .slice pz L cz] :: undef :: .pointer (some ⟨w.heap.size, 0, none⟩) :: .pointer (some ⟨w.heap.size + 1, 0, none⟩) :: .int .i64 L :: .pointer (some ⟨g, k * 2, none⟩) :: .int .i64 i :: .pointer (some ⟨w.heap.size, 2, none⟩) :: .slice pz L cz :: .slice (some ⟨g, 0, none⟩) L c1 :: .pointer (some ⟨w.heap.size, 2, none⟩) :: .pointer (some ⟨w.heap.size, 2, none⟩) :: .slice (some ⟨g, 0, none⟩) L c1 :: .int .i64 L :: .int .i64 L :: .bool false :: undef :: undef :: undef :: undef :: undef :: undef :: undef :: undef :: undef :: undef :: undef :: undef :: t29 :: t30 :: t31 :: t32 :: t33 :: t34 :: .pointer (some ⟨b, 0, none⟩) :: .int .i64 4 :: .int .i64 i :: .bool true :: u39 :: u40 :: t41 :: t42 :: t43 :: t44 :: t45 :: t46 :: t47 :: t48 :: t49 :: t50 :: t51 :: t52 :: t53 :: t54 :: t55 :: t56 :: t57 :: t58 :: t59 :: t60 :: t61 :: t62 :: t63 :: t64 :: t65 :: t66 :: t67 :: t68 :: t69 :: .bool false :: .bool false :: undef :: .bool false :: .bool false :: undef :: undef :: undef :: undef :: undef :: undef :: .bool false :: .bool false :: undef :: undef :: undef :: undef :: undef :: undef :: undef :: undef :: undef :: undef :: undef :: undef :: .bool false :: .bool false :: undef :: undef :: undef :: undef :: undef :: undef :: undef :: undef :: undef :: undef :: undef :: undef :: undef :: []).toArray, []⟩ ∧ ∃ (g3 c3 : Nat) (sh3 : List (Int × Int)), sh3.length = m + 1 ∧ Blk w.heap.size #[.string n0, .int .i64 v0, .slice (some ⟨g3, 0, none⟩) (m + 1) c3] 50 x ∧ Blk (w.heap.size + 1) #[.string ⟨#[]⟩, .int .i64 0, .slice none 0 0] 50 x ∧ RowZ w.heap.size x (.slice (some ⟨g3, 0, none⟩) (m + 1) c3) sh3 ∧ Dice b x ∧ But b w.heap.size w x) ?_ fun QQ hQ => ?_
                · intro a x hpost
                  obtain ⟨t41, hpost⟩ := hpost
                  obtain ⟨t42, hpost⟩ := hpost
                  obtain ⟨t43, hpost⟩ := hpost
                  obtain ⟨t44, hpost⟩ := hpost
                  obtain ⟨t45, hpost⟩ := hpost
                  obtain ⟨t46, hpost⟩ := hpost
                  obtain ⟨t47, hpost⟩ := hpost
                  obtain ⟨t48, hpost⟩ := hpost
                  obtain ⟨t49, hpost⟩ := hpost
                  obtain ⟨t50, hpost⟩ := hpost
                  obtain ⟨t51, hpost⟩ := hpost
                  obtain ⟨t52, hpost⟩ := hpost
                  obtain ⟨t53, hpost⟩ := hpost
                  obtain ⟨t54, hpost⟩ := hpost
                  obtain ⟨t55, hpost⟩ := hpost
                  obtain ⟨t56, hpost⟩ := hpost
                  obtain ⟨t57, hpost⟩ := hpost
                  obtain ⟨t58, hpost⟩ := hpost
                  obtain ⟨t59, hpost⟩ := hpost
                  obtain ⟨t60, hpost⟩ := hpost
                  obtain ⟨t61, hpost⟩ := hpost
                  obtain ⟨t62, hpost⟩ := hpost
                  obtain ⟨t63, hpost⟩ := hpost
                  obtain ⟨t64, hpost⟩ := hpost
                  obtain ⟨t65, hpost⟩ := hpost
                  obtain ⟨t66, hpost⟩ := hpost
                  obtain ⟨t67, hpost⟩ := hpost
                  obtain ⟨t68, hpost⟩ := hpost
                  obtain ⟨t69, hpost⟩ := hpost
                  obtain ⟨ha_, hpost⟩ := hpost
                  subst ha_
                  obtain ⟨g3, c3, sh3, hm3, p1_, p2_, p3_, p4_, p5_⟩ := hpost
                  have HM3 := Lib.hid hm3
                  clear hm3
                  go_wp2_with fail
                  go_roundw
                  case rel => exact ⟨i + 1, g3, m + 1, c3, sh3, rfl, by omega, by omega, by omega, by have := HQ.out; omega, HM3, Lib.hid (by have := HQ.out; omega), Lib.hid p1_, Lib.hid p2_, Lib.hid p3_, Lib.hid p4_, Lib.hid p5_⟩
                  case measure => simp [intOf]; omega
                have hQQ := Lib.hid hQ
                clear hQ
                simp only [List.drop_succ_cons, List.drop_zero]
                go_wp2_with (at_builtin; refine wpList_append_own_at _ rfl (.tmp 42) (.tmp 67) 48 rfl w.heap.size 137 i0 _ 2 16 Tryz.underlying48 hi hz0 hz1 hz2 rfl (by decide) _ _ _ rfl E3 ⟨g26, 0, none⟩ 1 1 [.int .i64 a26, .int .i64 d26] rfl rfl (blk_cells c26_1) (by intro u hu; simp at hu; rcases hu with rfl | rfl <;> rfl) (by unfold maxLen; omega) (by omega) hsx ?_)
                intro v' x8 hown8 hgrow _ hat
                obtain ⟨g3, c3, hv8⟩ := row_form hown8 (by omega)
                subst hv8
                have S8 := B3.grown E3 hgrow (by decide)
                have R8 := R3.grown E3 hgrow (by decide)
                have D8 := dice_grown HS.out.dice E3 hblt hsx hgrow
                have K8 := but_grown K3 E3 hsx hgrow
                have E8 : x8.ownsRow w.heap.size 137 2 (.slice (some ⟨g3, 0, none⟩) (m + 1) c3) (m + 1) (zCells (sh2 ++ [(a26, d26)])) := by rw [zCells_snoc]; exact hown8
                have f0 : x8.cell? ⟨w.heap.size, 2, none⟩ = some (.slice (some ⟨g2, 0, none⟩) m c2) := S8.cell 2
                have z0 := S8.frozen 2
                have HS9 := Lib.hid (show Blk w.heap.size #[.string n0, .int .i64 v0, .slice (some ⟨g3, 0, none⟩) (m + 1) c3] 50 _ from S8.set 2 (.slice (some ⟨g3, 0, none⟩) (m + 1) c3))
                have HR9 := Lib.hid (R8.set_other (show w.heap.size + 1 ≠ w.heap.size by omega) 2 (.slice (some ⟨g3, 0, none⟩) (m + 1) c3))
                have HE9 := Lib.hid (row_set E8 S8 (by decide) 2 (.slice (some ⟨g3, 0, none⟩) (m + 1) c3))
                have HD9 := Lib.hid (dice_set (i := 2) (u := .slice (some ⟨g3, 0, none⟩) (m + 1) c3) D8 hblt)
                have HK9 := Lib.hid (but_set (i := 2) (u := .slice (some ⟨g3, 0, none⟩) (m + 1) c3) K8 (Nat.le_refl _))
                have hm1 : (sh2 ++ [(a26, d26)]).length = m + 1 := by rw [List.length_append, HM.out]; rfl
                have HM1 := Lib.hid hm1
                clear hm1 hgrow hown8 hat S8 R8 D8 K8 E8 B3 R3 E3 K3
                go_wp2_with fail
                exact hQQ.out _ _ ⟨_, _, _, _, _, _, _, _, _, _, _, _, _, _, _, _, _, _, _, _, _, _, _, _, _, _, _, _, _, rfl, _, _, sh2 ++ [(a26, d26)], HM1.out, HS9.out, HR9.out, (by have := HE9.out; rw [← HM1.out] at this; unfold RowZ; rw [HM1.out] at this ⊢; exact this), HD9.out, HK9.out⟩
            · have HD := HD0
              clear HD0
              go_upto_region 20 with (fail)
              obtain ⟨c0_, c1_, c2_⟩ := And.intro (HB.out.cell 0) (And.intro (HB.out.cell 1) (HB.out.cell 2))
              simp only [List.getElem?_toArray, List.getElem?_cons_zero, List.getElem?_cons_succ] at c0_ c1_ c2_
              obtain ⟨r0, r1, r2⟩ := And.intro (HR.out.cell 0) (And.intro (HR.out.cell 1) (HR.out.cell 2))
              simp only [List.getElem?_toArray, List.getElem?_cons_zero, List.getElem?_cons_succ] at r0 r1 r2
              obtain ⟨z0, z1, z2⟩ := And.intro (HR.out.frozen 0) (And.intro (HR.out.frozen 1) (HR.out.frozen 2))
              go_wp2_with fail
              obtain ⟨W9, hW, B9, fX, fD, fK⟩ := fill3 HR.out (.string n0) (.int .i64 v0) (.slice (some ⟨g2, 0, none⟩) m c2)
              rw [← hW]
              have E9 := fX _ _ _ _ _ _ (by decide) HE.out
              have D9 := fD b (by omega) HD.out
              have K9 := fK b w.heap.size w (by omega) HK.out
              clear hW fX fD fK r0 r1 r2 c0_ c1_ c2_ z0 z1 z2
              have r0 : W9.cell? ⟨w.heap.size + 1, 0, none⟩ = some (.string n0) := B9.cell 0
              have r1 : W9.cell? ⟨w.heap.size + 1, 1, none⟩ = some (.int .i64 v0) := B9.cell 1
              have r2 : W9.cell? ⟨w.heap.size + 1, 2, none⟩ = some (.slice (some ⟨g2, 0, none⟩) m c2) := B9.cell 2
              refine bodyPost_ret (v := .agg #[.string n0, .int .i64 v0, .slice (some ⟨g2, 0, none⟩) m c2]) (by simp [results, Tryz.results54, go_sem, r0, r1, r2]) rfl ?_
              obtain rfl := HM.out
              exact ⟨n0, v0, (some ⟨g2, 0, none⟩), c2, sh2, rfl, by first | omega | (show 0 ≤ 1000; omega), by first | omega | (simp <;> omega), E9, D9, K9⟩
      have hQQ := Lib.hid hQ
      clear hQ
      simp only [List.drop_succ_cons, List.drop_zero]
      go_wp2_with fail
      exact hQQ.out _ _ ⟨_, _, _, _, _, _, _, rfl, n4.toNat, rfl, by omega, HS.out⟩
end Go.Proofs.YtageielcdebjlaaGreatDoor
