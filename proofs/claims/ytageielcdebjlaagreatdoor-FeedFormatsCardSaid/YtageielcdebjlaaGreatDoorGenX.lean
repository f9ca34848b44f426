/- timetablemore.OddFeed: its contract: a feed in new memory. -/
import Derived.Test.YtageielcdebjlaaGreatDoorPk32
namespace Go.Proofs.YtageielcdebjlaaGreatDoor
open Go.RowKit

/-- What OddFeed leaves: a feed, its events in rows from lo on. -/
def FeedO (b m lo : Nat) (w : World) (e : Ending) (w' : World) : Prop := ∃ (n : ByteArray) (v : Int) (pu : Option Addr) (cu : Nat) (ts : List (Ev × Value × Value)), e = .returned (.agg #[.string n, .int .i64 v, .slice pu ts.length cu]) ∧ n.size ≤ 1000 ∧ ts.length ≤ m ∧ RowE lo w' (.slice pu ts.length cu) ts ∧ Dice b w' ∧ But b w.heap.size w w'

set_option maxHeartbeats 32000000 in
set_option maxRecDepth 100000 in
theorem oddfeed23 (b lo : Nat) (n0 : ByteArray) (v0 : Int) (pu : Option Addr) (cu : Nat) (ts : List (Ev × Value × Value)) (w : World) (hd : Dice b w) (hb : b < lo) (hlo : lo ≤ w.heap.size) (hE : RowE lo w (.slice pu ts.length cu) ts) (hn : n0.size ≤ 1000) (hl : ts.length ≤ 10) (hS : ∀ t ∈ ts, SerG t.1.days) :
    Calls Tryz.prog 23 #[.pointer (some ⟨b, 0, none⟩), .agg #[.string n0, .int .i64 v0, .slice pu ts.length cu]] w (FeedO b 20 lo w) := by
  obtain ⟨i0, hi, hz0, hz1, hz2⟩ := info_parts infoEv
  have hblt := hd.lt; have hSb : w.heap.size ≠ b := by omega
  have hRb : w.heap.size + 1 ≠ b := by omega
  have HSG := Lib.hid hS; clear hS; have HS0 := Lib.hid ((Blk.new w #[.string n0, .int .i64 v0, .slice pu ts.length cu] 26).alloc (.cells #[.string ⟨#[]⟩, .int .i64 0, .slice none 0 0] 26))
  have HR0 := Lib.hid (Blk.new (w.alloc (.cells #[.string n0, .int .i64 v0, .slice pu ts.length cu] 26)) #[.string ⟨#[]⟩, .int .i64 0, .slice none 0 0] 26)
  have HR0 := Lib.hid (show Blk (w.heap.size + 1) #[.string ⟨#[]⟩, .int .i64 0, .slice none 0 0] 26 _ from by simpa using HR0.out)
  have HK0 := Lib.hid (but_alloc (but_alloc (But.refl b w.heap.size w) (Nat.le_refl _) (.cells #[.string n0, .int .i64 v0, .slice pu ts.length cu] 26)) (by simp) (.cells #[.string ⟨#[]⟩, .int .i64 0, .slice none 0 0] 26))
  have HD0 := Lib.hid (dice_alloc (dice_alloc hd (.cells #[.string n0, .int .i64 v0, .slice pu ts.length cu] 26)) (.cells #[.string ⟨#[]⟩, .int .i64 0, .slice none 0 0] 26))
  have hE0 := (hE.alloc (.cells #[.string n0, .int .i64 v0, .slice pu ts.length cu] 26)).alloc (.cells #[.string ⟨#[]⟩, .int .i64 0, .slice none 0 0] 26)
  have hx0 : w.heap.size ≤ ((w.alloc (.cells #[.string n0, .int .i64 v0, .slice pu ts.length cu] 26)).alloc (.cells #[.string ⟨#[]⟩, .int .i64 0, .slice none 0 0] 26)).heap.size := by simp; omega
  obtain ⟨wa, hwa⟩ : ∃ wa, wa = (w.alloc (.cells #[.string n0, .int .i64 v0, .slice pu ts.length cu] 26)).alloc (.cells #[.string ⟨#[]⟩, .int .i64 0, .slice none 0 0] 26) := ⟨_, rfl⟩
  rw [← hwa] at HS0 HR0 HK0 HD0 hE0 hx0
  have l2 : wa.cell? ⟨w.heap.size, 2, none⟩ = some (.slice pu ts.length cu) := HS0.out.cell 2
  go_enter Tryz.func23, Tryz.ntmps23
  go_upto_region 1 with (fail)
  rw [← hwa]; clear hwa; go_wp2_with (at_builtin; refine wpList_append_row rfl (.const (.slice none 0 0)) (.tmp 8) 22 rfl w.heap.size 82 i0 _ 13 160 Tryz.underlying22 hi hz0 hz1 hz2 rfl (by decide) _ _ _ rfl (World.ownsRow_nil wa _ _ _) lo _ _ _ rfl hE0.row hE0.one (by unfold maxLen; omega) (by omega) hx0 ?_)
  intro v' w1 hown hgrow hat; have hown : w1.ownsRow w.heap.size 82 13 v' ts.length (tCells ts) := by simpa using hown
  have hgrow : wa.grownBy w1 none := hgrow
  have hE1 := hE0.copied hlo hgrow hown; have HS1 := (Sofar.refl HD0.out).grown0 hgrow
  have B1 := HS1.blk HS0.out hSb
  have R1 := HS1.blk HR0.out hRb
  have K1 := but_then HK0.out HS1.but HK0.out.size
  have D1 := HS1.dice; obtain ⟨p1, c1, hv⟩ := ownsRow_len hown
  subst hv; have f0 : w1.cell? ⟨w.heap.size, 2, none⟩ = some (.slice pu ts.length cu) := B1.cell 2
  have z0 := B1.frozen 2; have HB2 := Lib.hid (show Blk w.heap.size #[.string n0, .int .i64 v0, .slice p1 ts.length c1] 26 _ from B1.set 2 (.slice p1 ts.length c1))
  have HR2 := Lib.hid (R1.set_other (show w.heap.size + 1 ≠ w.heap.size by omega) 2 (.slice p1 ts.length c1))
  have HE2 := Lib.hid (hE1.set B1 (by decide) (by decide) 2 (.slice p1 ts.length c1))
  have HO2 := Lib.hid (row_set hown B1 (by decide) 2 (.slice p1 ts.length c1))
  have HD2 := Lib.hid (dice_set (i := 2) (u := .slice p1 ts.length c1) D1 hblt)
  have HK2 := Lib.hid (but_set (i := 2) (u := .slice p1 ts.length c1) K1 (Nat.le_refl _))
  clear hown hgrow hat HS1 B1 R1 K1 D1 HS0 HR0 HK0 HD0 hE0 hx0 l2 hE hE1; go_upto_region 2 with (fail)
  clear f0 z0; obtain ⟨w2, hw2⟩ : ∃ w2, w2 = w1.setCell ⟨w.heap.size, 2, none⟩ (.slice p1 ts.length c1) := ⟨_, rfl⟩
  rw [← hw2] at HB2 HR2 HE2 HO2 HD2 HK2 ⊢
  clear hw2; have f2 : w2.cell? ⟨w.heap.size, 2, none⟩ = some (.slice p1 ts.length c1) := HB2.out.cell 2
  obtain ⟨L, hL⟩ : ∃ L, L = ts.length := ⟨_, rfl⟩
  rw [← hL] at f2 HB2 HE2 HO2 hl ⊢
  have HL := Lib.hid hL; clear hL; have hlq : (L : Int) ≤ 10 := by omega
  by_cases h0 : L = 0
  · subst h0; clear HO2
    go_wp2_with fail
    have hgb2 : w2.heap.size ≠ b := by have := HD2.out.lt; omega
    have HG1 := Lib.hid (Blk.new w2 #[.int .i64 (-1), .int .i64 0, .int .i64 64, .int .i64 65] 3)
    refine (next_any b 4 _ (dice_alloc HD2.out _) (by omega) (by omega)).mono ?_
    rintro e w4 ⟨a, rfl, a0, a1, -, D, ho4⟩; have a1 := a1 (by omega)
    have hG := HG1.out.only ho4 hgb2; have B := (HB2.out.alloc (.cells #[.int .i64 (-1), .int .i64 0, .int .i64 64, .int .i64 65] 3)).only ho4 hSb
    have R := (HR2.out.alloc (.cells #[.int .i64 (-1), .int .i64 0, .int .i64 64, .int .i64 65] 3)).only ho4 hRb
    have E := (HE2.out.alloc (.cells #[.int .i64 (-1), .int .i64 0, .int .i64 64, .int .i64 65] 3)).only hb ho4
    have K := but_only (but_alloc HK2.out HK2.out.size (.cells #[.int .i64 (-1), .int .i64 0, .int .i64 64, .int .i64 65] 3)) ho4
    obtain ⟨n, hc⟩ : ∃ n, w4.cell? ⟨w2.heap.size, a.toNat, none⟩ = some (.int .i64 n) := by
      rcases (show a = 0 ∨ a = 1 ∨ a = 2 ∨ a = 3 by omega) with rfl | rfl | rfl | rfl
      · exact ⟨_, hG.cell 0⟩
      · exact ⟨_, hG.cell 1⟩
      · exact ⟨_, hG.cell 2⟩
      · exact ⟨_, hG.cell 3⟩
    have c1_ : w4.cell? ⟨w.heap.size, 1, none⟩ = some (.int .i64 v0) := B.cell 1
    have z1 := B.frozen 1; have HB := Lib.hid (show Blk w.heap.size #[.string n0, .int .i64 n, .slice p1 0 c1] 26 _ from B.set 1 (.int .i64 n))
    have HR := Lib.hid (R.set_other (show w.heap.size + 1 ≠ w.heap.size by omega) 1 (.int .i64 n))
    have HE := Lib.hid (E.set B (by decide) (by decide) 1 (.int .i64 n))
    have HD := Lib.hid (dice_set (i := 1) (u := .int .i64 n) D hblt)
    have HK := Lib.hid (but_set (i := 1) (u := .int .i64 n) K (Nat.le_refl _))
    clear B R E D K HB2 HR2 HE2 HD2 HK2 hG HG1 ho4; go_upto_region 5 with (fail)
    clear c1_ z1 hc; obtain ⟨W, hW⟩ : ∃ W, W = w4.setCell ⟨w.heap.size, 1, none⟩ (.int .i64 n) := ⟨_, rfl⟩
    rw [← hW] at HB HR HE HD HK ⊢
    clear hW; obtain ⟨c0_, c1_, c2_⟩ := And.intro (HB.out.cell 0) (And.intro (HB.out.cell 1) (HB.out.cell 2))
    simp only [List.getElem?_toArray, List.getElem?_cons_zero, List.getElem?_cons_succ] at c0_ c1_ c2_
    obtain ⟨r0, r1, r2⟩ := And.intro (HR.out.cell 0) (And.intro (HR.out.cell 1) (HR.out.cell 2))
    simp only [List.getElem?_toArray, List.getElem?_cons_zero, List.getElem?_cons_succ] at r0 r1 r2
    obtain ⟨z0, z1, z2⟩ := And.intro (HR.out.frozen 0) (And.intro (HR.out.frozen 1) (HR.out.frozen 2))
    go_wp2_with fail
    obtain ⟨W9, hW, B9, fX, fD, fK⟩ := fill3 HR.out (.string n0) (.int .i64 n) (.slice p1 0 c1)
    rw [← hW]; have E9 := HE.out.map (ty := 26) (by decide) (by decide) fX
    have D9 := fD b (by omega) HD.out
    have K9 := fK b w.heap.size w (by omega) HK.out
    clear hW fX fD fK r0 r1 r2 c0_ c1_ c2_ z0 z1 z2; have r0 : W9.cell? ⟨w.heap.size + 1, 0, none⟩ = some (.string n0) := B9.cell 0
    have r1 : W9.cell? ⟨w.heap.size + 1, 1, none⟩ = some (.int .i64 n) := B9.cell 1
    have r2 : W9.cell? ⟨w.heap.size + 1, 2, none⟩ = some (.slice p1 0 c1) := B9.cell 2
    refine bodyPost_ret (v := .agg #[.string n0, .int .i64 n, .slice p1 0 c1]) (by simp [results, Tryz.results23, go_sem, r0, r1, r2]) rfl ?_
    have hq : 0 = (ts).length := HL.out
    exact ⟨n0, n, p1, c1, ts, by rw [← hq], by first | omega | (show 0 ≤ 1000; omega), by rw [← hq]; omega, by rw [← hq]; exact E9, D9, K9⟩
  · have hne : (((L : Int) == 0) = false) := by simpa using h0
    obtain ⟨g, cg, hform⟩ := row_form HO2.out (by omega)
    obtain ⟨rfl, rfl⟩ : p1 = some ⟨g, 0, none⟩ ∧ c1 = cg := by simpa using hform
    clear hform; obtain ⟨cur, hcur, hg1, hg2⟩ := row_blk HO2.out
    clear HO2; have hgb : g ≠ b := by omega
    have hbB : b < w2.heap.size := HD2.out.lt
    have HD0 := HD2; clear HD2; go_wp2_with fail
    refine wp_region_tail 5 (by kernel_rfl) (fun listed a x => ∃ (l0 l1 l2 l3 l4 : Bool) (t23 t24 t25 t26 t27 : Value), listed = #[l0, l1, l2, l3, l4, false, false] ∧ a = ⟨(.pointer (some ⟨b, 0, none⟩) :: .agg #[.string n0, .int .i64 v0, .slice pu L cu] :: undef :: .pointer (some ⟨w.heap.size, 0, none⟩) :: .pointer (some ⟨w.heap.size + 1, 0, none⟩) :: .int .i64 L :: undef :: .pointer (some ⟨w.heap.size, 2, none⟩) :: .slice pu L cu :: .slice (some ⟨g, 0, none⟩) L c1 :: .pointer (some ⟨w.heap.size, 2, none⟩) :: .pointer (some ⟨w.heap.size, 2, none⟩) :: .slice (some ⟨g, 0, none⟩) L c1 :: .int .i64 L :: .int .i64 L :: .bool false :: undef :: undef :: undef :: undef :: undef :: undef :: undef :: t23 :: t24 :: t25 :: t26 :: t27 :: undef :: undef :: undef :: undef :: undef :: undef :: undef :: undef :: undef :: undef :: undef :: undef :: undef :: undef :: undef :: undef :: undef :: undef :: undef :: undef :: undef :: undef :: undef :: undef :: undef :: undef :: undef :: undef :: undef :: undef :: undef :: undef :: undef :: undef :: undef :: undef :: undef :: undef :: undef :: undef :: undef :: undef :: undef :: undef :: undef :: undef :: undef :: undef :: undef :: undef :: undef :: undef :: undef :: undef :: undef :: undef :: undef :: undef :: undef :: undef :: undef :: undef :: undef :: undef :: undef :: undef :: undef :: undef :: undef :: undef :: undef :: undef :: undef :: undef :: undef :: undef :: undef :: undef :: undef :: undef :: undef :: undef :: undef :: undef :: undef :: undef :: undef :: []).toArray, []⟩ ∧ Hid (l0 = true → t23 = .pointer (some ⟨w.heap.size, 2, none⟩)) ∧ Hid (l1 = true → t24 = .slice (some ⟨g, 0, none⟩) L c1) ∧ Hid (l2 = true → t25 = .pointer (some ⟨b, 0, none⟩)) ∧ Hid (l3 = true → t26 = .int .i64 L) ∧ Hid (l4 = true → ∃ (n : Int), t27 = .int .i64 n ∧ 0 ≤ n ∧ n < L) ∧ Hid (Sofar b w2 x)) (by decide) (by kernel_rfl) (by kernel_rfl) ?_ ?_ ?_ ?_
    · exact ⟨false, false, false, false, false, _, _, _, _, _, rfl, rfl, Lib.hid (fun h => by cases h), Lib.hid (fun h => by cases h), Lib.hid (fun h => by cases h), Lib.hid (fun h => by cases h), Lib.hid (fun h => by cases h), Lib.hid (Sofar.start HD0.out)⟩
    · intro listed a x hj; obtain ⟨l0, hj⟩ := hj
      obtain ⟨l1, hj⟩ := hj; obtain ⟨l2, hj⟩ := hj; obtain ⟨l3, hj⟩ := hj; obtain ⟨l4, hj⟩ := hj; obtain ⟨t23, hj⟩ := hj; obtain ⟨t24, hj⟩ := hj; obtain ⟨t25, hj⟩ := hj; obtain ⟨t26, hj⟩ := hj; obtain ⟨t27, hj⟩ := hj; obtain ⟨h1, -⟩ := hj; subst h1; exact ⟨rfl, fun k h1 h2 => by (have h2 : k < 7 := h2); rcases (show k = 5 ∨ k = 6 by omega) with rfl | rfl <;> rfl⟩
    · intro listed a x i hj hlt hu haf; obtain ⟨l0, hj⟩ := hj
      obtain ⟨l1, hj⟩ := hj; obtain ⟨l2, hj⟩ := hj; obtain ⟨l3, hj⟩ := hj; obtain ⟨l4, hj⟩ := hj; obtain ⟨t23, hj⟩ := hj; obtain ⟨t24, hj⟩ := hj; obtain ⟨t25, hj⟩ := hj; obtain ⟨t26, hj⟩ := hj; obtain ⟨t27, hj⟩ := hj; obtain ⟨hl_, hj⟩ := hj; obtain ⟨ha_, hj⟩ := hj; obtain ⟨H0, hj⟩ := hj; obtain ⟨H1, hj⟩ := hj; obtain ⟨H2, hj⟩ := hj; obtain ⟨H3, hj⟩ := hj; obtain ⟨H4, hj⟩ := hj; have HS := hj; clear hj; subst hl_; subst ha_; rcases (show ∀ i : Nat, i < 5 → (i = 0 ∨ i = 1 ∨ i = 2 ∨ i = 3 ∨ i = 4) by decide) i hlt with rfl | rfl | rfl | rfl | rfl
      · have haf := haf _ rfl; clear haf
        have hu : l0 = false := hu
        refine wpOp_of_list_any rfl fun QQ hQ => ?_
        have hQQ := Lib.hid hQ; clear hQ; simp only [List.getElem_toArray, List.getElem_cons_zero]
        go_wp2_with fail
        exact hQQ.out _ _ ⟨true, l1, l2, l3, l4, _, _, _, _, _, rfl, rfl, Lib.hid (fun _ => rfl), H1, H2, H3, H4, HS⟩
      · have haf := haf _ rfl; have q0 : l0 = true := haf ⟨0, Go.Ground.data⟩ (by simp) rfl
        clear haf; have hu : l1 = false := hu
        have e0 := (H0.out q0)
        subst e0; clear H0; have hc : x.cell? ⟨w.heap.size, 2, none⟩ = some (.slice (some ⟨g, 0, none⟩) L c1) := (HS.out.blk HB2.out hSb).cell 2
        refine wpOp_of_list_any rfl fun QQ hQ => ?_
        have hQQ := Lib.hid hQ; clear hQ; simp only [List.getElem_toArray, List.getElem_cons_zero, List.getElem_cons_succ]
        go_wp2_with fail
        exact hQQ.out _ _ ⟨l0, true, l2, l3, l4, _, _, _, _, _, rfl, rfl, Lib.hid (fun _ => rfl), Lib.hid (fun _ => rfl), H2, H3, H4, HS⟩
      · have haf := haf _ rfl; clear haf
        have hu : l2 = false := hu
        refine wpOp_of_list_any rfl fun QQ hQ => ?_
        have hQQ := Lib.hid hQ; clear hQ; simp only [List.getElem_toArray, List.getElem_cons_zero, List.getElem_cons_succ]
        go_wp2_with fail
        exact hQQ.out _ _ ⟨l0, l1, true, l3, l4, _, _, _, _, _, rfl, rfl, H0, H1, Lib.hid (fun _ => rfl), H3, H4, HS⟩
      · have haf := haf _ rfl; clear haf
        have hu : l3 = false := hu
        refine wpOp_of_list_any rfl fun QQ hQ => ?_
        have hQQ := Lib.hid hQ; clear hQ; simp only [List.getElem_toArray, List.getElem_cons_zero, List.getElem_cons_succ]
        go_wp2_with fail
        exact hQQ.out _ _ ⟨l0, l1, l2, true, l4, _, _, _, _, _, rfl, rfl, H0, H1, H2, Lib.hid (fun _ => rfl), H4, HS⟩
      · have haf := haf _ rfl; have q2 : l2 = true := haf ⟨2, Go.Ground.data⟩ (by simp) rfl
        have q3 : l3 = true := haf ⟨3, Go.Ground.data⟩ (by simp) rfl
        clear haf; have hu : l4 = false := hu
        have e2 := (H2.out q2)
        subst e2; clear H2; have e3 := (H3.out q3)
        subst e3; clear H3; refine wpOp_of_list_any rfl fun QQ hQ => ?_
        have hQQ := Lib.hid hQ; clear hQ; simp only [List.getElem_toArray, List.getElem_cons_zero, List.getElem_cons_succ]
        go_wp2_with fail
        refine (next_any b L _ HS.out.dice (by omega) (by omega)).mono ?_
        rintro e x1 ⟨v, rfl, h0_, h1, -, hd1, ho1⟩; have h1 := h1 (by omega)
        have hk := Kept.only ho1 hbB; have HS1 := Lib.hid (HS.out.only hd1 ho1)
        clear ho1 hd1; go_wp2_with fail
        exact hQQ.out _ _ ⟨l0, l1, l2, l3, true, _, _, _, _, _, rfl, rfl, H0, H1, Lib.hid (fun _ => rfl), Lib.hid (fun _ => rfl), Lib.hid (fun _ => ⟨_, rfl, by omega, by omega⟩), HS1⟩
    · intro listed a x hj hall; obtain ⟨l0, hj⟩ := hj
      obtain ⟨l1, hj⟩ := hj; obtain ⟨l2, hj⟩ := hj; obtain ⟨l3, hj⟩ := hj; obtain ⟨l4, hj⟩ := hj; obtain ⟨t23, hj⟩ := hj; obtain ⟨t24, hj⟩ := hj; obtain ⟨t25, hj⟩ := hj; obtain ⟨t26, hj⟩ := hj; obtain ⟨t27, hj⟩ := hj; obtain ⟨hl_, hj⟩ := hj; obtain ⟨ha_, hj⟩ := hj; obtain ⟨H0, hj⟩ := hj; obtain ⟨H1, hj⟩ := hj; obtain ⟨H2, hj⟩ := hj; obtain ⟨H3, hj⟩ := hj; obtain ⟨H4, hj⟩ := hj; have HS := hj; clear hj; subst hl_; subst ha_; have q1 : l1 = true := hall 1 (by omega)
      have q4 : l4 = true := hall 4 (by omega)
      clear hall; have e1 := (H1.out q1)
      subst e1; obtain ⟨n4, e4, c4_0, c4_1⟩ := (H4.out q4)
      subst e4; refine tail_any (fun a x => ∃ (t6 t23 t24 t25 t26 t27 t28 : Value), a = ⟨(.pointer (some ⟨b, 0, none⟩) :: .agg #[.string n0, .int .i64 v0, .slice pu L cu] :: undef :: .pointer (some ⟨w.heap.size, 0, none⟩) :: .pointer (some ⟨w.heap.size + 1, 0, none⟩) :: .int .i64 L :: t6 :: .pointer (some ⟨w.heap.size, 2, none⟩) :: .slice pu L cu :: .slice (some ⟨g, 0, none⟩) L c1 :: .pointer (some ⟨w.heap.size, 2, none⟩) :: .pointer (some ⟨w.heap.size, 2, none⟩) :: .slice (some ⟨g, 0, none⟩) L c1 :: .int .i64 L :: .int .i64 L :: .bool false :: undef :: undef :: undef :: undef :: undef :: undef :: undef :: t23 :: t24 :: t25 :: t26 :: t27 :: t28 :: undef :: undef :: undef :: undef :: undef :: undef :: undef :: undef :: undef :: undef :: undef :: undef :: undef :: undef :: undef :: undef :: undef :: undef :: undef :: undef :: undef :: undef :: undef :: undef :: undef :: undef :: undef :: undef :: undef :: undef :: undef :: undef :: undef :: undef :: undef :: undef :: undef :: undef :: undef :: undef :: undef :: undef :: undef :: undef :: undef :: undef :: undef :: undef :: undef :: undef :: undef :: undef :: undef :: undef :: undef :: undef :: undef :: undef :: undef :: undef :: undef :: undef :: undef :: undef :: undef :: undef :: undef :: undef :: undef :: undef :: undef :: undef :: undef :: undef :: undef :: undef :: undef :: undef :: undef :: undef :: undef :: undef :: undef :: undef :: undef :: undef :: []).toArray, []⟩ ∧ ∃ k : Nat, t6 = .pointer (some ⟨g, k * 13, none⟩) ∧ k < L ∧ Sofar b w2 x) ?_ fun QQ hQ => ?_
      · intro a x hpost; obtain ⟨t6, hpost⟩ := hpost
        obtain ⟨t23, hpost⟩ := hpost; obtain ⟨t24, hpost⟩ := hpost; obtain ⟨t25, hpost⟩ := hpost; obtain ⟨t26, hpost⟩ := hpost; obtain ⟨t27, hpost⟩ := hpost; obtain ⟨t28, hpost⟩ := hpost; obtain ⟨ha_, hpost⟩ := hpost; subst ha_; obtain ⟨k, rfl, hk, hS_⟩ := hpost; have HB3 := Lib.hid (hS_.blk HB2.out hSb)
        have HR3 := Lib.hid (hS_.blk HR2.out hRb)
        have HK3 := Lib.hid (but_then HK2.out hS_.but HK2.out.size)
        have HE3 := Lib.hid (HE2.out.but hb hS_.but)
        have HD3 := Lib.hid hS_.dice
        have hcur := hcur.but hS_.but hgb
        clear hS_ HB2 HR2 HK2 HE2 HD0 hbB; go_wp2_with fail
        refine (next_any b 9 _ HD3.out (by omega) (by omega)).mono ?_
        rintro e w3 ⟨v, rfl, v0_, v1_, -, hd3, ho3⟩; have v1_ := v1_ (by omega)
        have HB4 := Lib.hid (HB3.out.only ho3 hSb)
        have HR4 := Lib.hid (HR3.out.only ho3 hRb)
        have HK4 := Lib.hid (but_only HK3.out ho3)
        have HE4 := Lib.hid (HE3.out.only hb ho3)
        have hcur := hcur.only ho3 hgb; have hg2 : g < w3.heap.size := hcur.lt
        have HD4 := Lib.hid hd3; clear HB3 HR3 HK3 HE3 HD3 hd3 ho3; obtain ⟨⟨ev, va, vb⟩, ht⟩ : ∃ t, ts[k]? = some t := ⟨_, List.getElem?_eq_getElem (by have := HL.out; omega)⟩
        have HT := Lib.hid ht; obtain ⟨gG, gX, gY⟩ := HE4.out.ref _ (List.mem_of_getElem? ht)
        have gS := HSG.out _ (List.mem_of_getElem? ht)
        obtain ⟨px, kx, hx⟩ := gX.slice
        obtain ⟨py, ky, hy⟩ := gY.slice
        simp only at hx hy
        subst hx; subst hy; clear ht gX gY; have HGG := Lib.hid gG; have HGS := Lib.hid gS; clear gG gS; have hbg : b < g := by omega
        have hSg : w.heap.size ≠ g := by intro e; subst e; exact absurd (show some (Obj.cells _ 26 (0, 0)) = some (Obj.cells cur 82 (0, 0)) from (show w3.heap[w.heap.size]? = _ from HB4.out).symm.trans hcur) (by simp)
        have hRg : w.heap.size + 1 ≠ g := by intro e; subst e; exact absurd (show some (Obj.cells _ 26 (0, 0)) = some (Obj.cells cur 82 (0, 0)) from (show w3.heap[w.heap.size + 1]? = _ from HR4.out).symm.trans hcur) (by simp)
        rcases (show v = 0 ∨ v = 1 ∨ v = 2 ∨ v = 3 ∨ v = 4 ∨ v = 5 ∨ v = 6 ∨ v = 7 ∨ v = 8 by omega) with rfl | rfl | rfl | rfl | rfl | rfl | rfl | rfl | rfl
        · have B := HB4.out; have R := HR4.out
          have E := HE4.out; have D := HD4.out; have K := HK4.out; have c0 : w3.cell? ⟨w.heap.size, 0, none⟩ = some (.string n0) := B.cell 0
          have z0 := B.frozen 0; have HB := Lib.hid (show Blk w.heap.size #[.string ⟨#[]⟩, .int .i64 v0, .slice (some ⟨g, 0, none⟩) L c1] 26 _ from B.set 0 (.string ⟨#[]⟩))
          have HR := Lib.hid (R.set_other (show w.heap.size + 1 ≠ w.heap.size by omega) 0 (.string ⟨#[]⟩))
          have HE := Lib.hid (E.set B (by decide) (by decide) 0 (.string ⟨#[]⟩))
          have HD := Lib.hid (dice_set (i := 0) (u := .string ⟨#[]⟩) D hblt)
          have HK := Lib.hid (but_set (i := 0) (u := .string ⟨#[]⟩) K (Nat.le_refl _))
          clear B R E D K HB4 HR4 HE4 HD4 HK4; go_upto_region 25 with (fail)
          clear c0 z0; obtain ⟨W, hW⟩ : ∃ W, W = w3.setCell ⟨w.heap.size, 0, none⟩ (.string ⟨#[]⟩) := ⟨_, rfl⟩
          rw [← hW] at HB HR HE HD HK ⊢
          clear hW; obtain ⟨c0_, c1_, c2_⟩ := And.intro (HB.out.cell 0) (And.intro (HB.out.cell 1) (HB.out.cell 2))
          simp only [List.getElem?_toArray, List.getElem?_cons_zero, List.getElem?_cons_succ] at c0_ c1_ c2_
          obtain ⟨r0, r1, r2⟩ := And.intro (HR.out.cell 0) (And.intro (HR.out.cell 1) (HR.out.cell 2))
          simp only [List.getElem?_toArray, List.getElem?_cons_zero, List.getElem?_cons_succ] at r0 r1 r2
          obtain ⟨z0, z1, z2⟩ := And.intro (HR.out.frozen 0) (And.intro (HR.out.frozen 1) (HR.out.frozen 2))
          go_wp2_with fail
          obtain ⟨W9, hW, B9, fX, fD, fK⟩ := fill3 HR.out (.string ⟨#[]⟩) (.int .i64 v0) (.slice (some ⟨g, 0, none⟩) L c1)
          rw [← hW]; have E9 := HE.out.map (ty := 26) (by decide) (by decide) fX
          have D9 := fD b (by omega) HD.out
          have K9 := fK b w.heap.size w (by omega) HK.out
          clear hW fX fD fK r0 r1 r2 c0_ c1_ c2_ z0 z1 z2; have r0 : W9.cell? ⟨w.heap.size + 1, 0, none⟩ = some (.string ⟨#[]⟩) := B9.cell 0
          have r1 : W9.cell? ⟨w.heap.size + 1, 1, none⟩ = some (.int .i64 v0) := B9.cell 1
          have r2 : W9.cell? ⟨w.heap.size + 1, 2, none⟩ = some (.slice (some ⟨g, 0, none⟩) L c1) := B9.cell 2
          refine bodyPost_ret (v := .agg #[.string ⟨#[]⟩, .int .i64 v0, .slice (some ⟨g, 0, none⟩) L c1]) (by simp [results, Tryz.results23, go_sem, r0, r1, r2]) rfl ?_
          have hq : L = (ts).length := HL.out
          exact ⟨⟨#[]⟩, v0, (some ⟨g, 0, none⟩), c1, ts, by rw [← hq], by first | omega | (show 0 ≤ 1000; omega), by rw [← hq]; omega, by rw [← hq]; exact E9, D9, K9⟩
        · go_wp2_with fail
          have hgb2 : w3.heap.size ≠ b := by have := HD4.out.lt; omega
          have HG1 := Lib.hid (Blk.new w3 #[.string ⟨#[]⟩, .string ⟨#[99, 49]⟩, .string ⟨#[99, 49, 64, 48]⟩, .string ⟨#[99, 49, 64, 48, 49]⟩, .string ⟨#[99, 49, 64, 50, 48]⟩, .string ⟨#[99, 49, 64, 50, 49]⟩, .string ⟨#[64, 49]⟩, .string ⟨#[99, 32, 49, 64, 49]⟩, .string ⟨#[99, 49, 64, 49, 64, 49]⟩] 9)
          refine (next_any b 9 _ (dice_alloc HD4.out _) (by omega) (by omega)).mono ?_
          rintro e w4 ⟨a, rfl, a0, a1, -, D, ho4⟩; have a1 := a1 (by omega)
          have hG := HG1.out.only ho4 hgb2; have B := (HB4.out.alloc (.cells #[.string ⟨#[]⟩, .string ⟨#[99, 49]⟩, .string ⟨#[99, 49, 64, 48]⟩, .string ⟨#[99, 49, 64, 48, 49]⟩, .string ⟨#[99, 49, 64, 50, 48]⟩, .string ⟨#[99, 49, 64, 50, 49]⟩, .string ⟨#[64, 49]⟩, .string ⟨#[99, 32, 49, 64, 49]⟩, .string ⟨#[99, 49, 64, 49, 64, 49]⟩] 9)).only ho4 hSb
          have R := (HR4.out.alloc (.cells #[.string ⟨#[]⟩, .string ⟨#[99, 49]⟩, .string ⟨#[99, 49, 64, 48]⟩, .string ⟨#[99, 49, 64, 48, 49]⟩, .string ⟨#[99, 49, 64, 50, 48]⟩, .string ⟨#[99, 49, 64, 50, 49]⟩, .string ⟨#[64, 49]⟩, .string ⟨#[99, 32, 49, 64, 49]⟩, .string ⟨#[99, 49, 64, 49, 64, 49]⟩] 9)).only ho4 hRb
          have E := (HE4.out.alloc (.cells #[.string ⟨#[]⟩, .string ⟨#[99, 49]⟩, .string ⟨#[99, 49, 64, 48]⟩, .string ⟨#[99, 49, 64, 48, 49]⟩, .string ⟨#[99, 49, 64, 50, 48]⟩, .string ⟨#[99, 49, 64, 50, 49]⟩, .string ⟨#[64, 49]⟩, .string ⟨#[99, 32, 49, 64, 49]⟩, .string ⟨#[99, 49, 64, 49, 64, 49]⟩] 9)).only hb ho4
          have K := but_only (but_alloc HK4.out HK4.out.size (.cells #[.string ⟨#[]⟩, .string ⟨#[99, 49]⟩, .string ⟨#[99, 49, 64, 48]⟩, .string ⟨#[99, 49, 64, 48, 49]⟩, .string ⟨#[99, 49, 64, 50, 48]⟩, .string ⟨#[99, 49, 64, 50, 49]⟩, .string ⟨#[64, 49]⟩, .string ⟨#[99, 32, 49, 64, 49]⟩, .string ⟨#[99, 49, 64, 49, 64, 49]⟩] 9)) ho4
          obtain ⟨n, hc, hns⟩ : ∃ n : ByteArray, w4.cell? ⟨w3.heap.size, a.toNat, none⟩ = some (.string n) ∧ n.size ≤ 1000 := by
            rcases (show a = 0 ∨ a = 1 ∨ a = 2 ∨ a = 3 ∨ a = 4 ∨ a = 5 ∨ a = 6 ∨ a = 7 ∨ a = 8 by omega) with rfl | rfl | rfl | rfl | rfl | rfl | rfl | rfl | rfl
            · exact ⟨_, hG.cell 0, by decide⟩
            · exact ⟨_, hG.cell 1, by decide⟩
            · exact ⟨_, hG.cell 2, by decide⟩
            · exact ⟨_, hG.cell 3, by decide⟩
            · exact ⟨_, hG.cell 4, by decide⟩
            · exact ⟨_, hG.cell 5, by decide⟩
            · exact ⟨_, hG.cell 6, by decide⟩
            · exact ⟨_, hG.cell 7, by decide⟩
            · exact ⟨_, hG.cell 8, by decide⟩
          have f5 : w4.cell? ⟨g, k * 13, none⟩ = some (.string ev.uid) := E.cell HL.out.symm k 0 (ev, (.slice px ev.days.ex.length kx), (.slice py ev.days.xt.length ky)) _ HT.out (by decide) rfl
          have z5 := E.frz HL.out.symm (k * 13)
          have HE := Lib.hid (show RowE lo (w4.setCell ⟨g, k * 13, none⟩ (.string n)) (.slice (some ⟨g, 0, none⟩) L c1) (ts.set k ({ ev with uid := n }, (.slice px ev.days.ex.length kx), (.slice py ev.days.xt.length ky))) from E.put k 0 (ev, (.slice px ev.days.ex.length kx), (.slice py ev.days.xt.length ky)) ({ ev with uid := n }, (.slice px ev.days.ex.length kx), (.slice py ev.days.xt.length ky)) (.string n) HT.out (by decide) HL.out.symm rfl ⟨⟨HGG.out.ex, HGG.out.xt, hns, HGG.out.summ, HGG.out.loc⟩, (E.ref _ (List.mem_of_getElem? HT.out)).2.1, (E.ref _ (List.mem_of_getElem? HT.out)).2.2⟩)
          have HB := Lib.hid (B.set_other hSg (k * 13) (.string n))
          have HR := Lib.hid (R.set_other hRg (k * 13) (.string n))
          have HD := Lib.hid (dice_set (i := k * 13) (u := .string n) D hbg)
          have HK := Lib.hid (but_set (i := k * 13) (u := .string n) K hg1)
          clear B R E D K HB4 HR4 HE4 HD4 HK4 hG HG1 ho4; go_upto_region 25 with (fail)
          clear f5 z5 hc; obtain ⟨W, hW⟩ : ∃ W, W = w4.setCell ⟨g, k * 13, none⟩ (.string n) := ⟨_, rfl⟩
          rw [← hW] at HB HR HE HD HK ⊢
          clear hW; obtain ⟨c0_, c1_, c2_⟩ := And.intro (HB.out.cell 0) (And.intro (HB.out.cell 1) (HB.out.cell 2))
          simp only [List.getElem?_toArray, List.getElem?_cons_zero, List.getElem?_cons_succ] at c0_ c1_ c2_
          obtain ⟨r0, r1, r2⟩ := And.intro (HR.out.cell 0) (And.intro (HR.out.cell 1) (HR.out.cell 2))
          simp only [List.getElem?_toArray, List.getElem?_cons_zero, List.getElem?_cons_succ] at r0 r1 r2
          obtain ⟨z0, z1, z2⟩ := And.intro (HR.out.frozen 0) (And.intro (HR.out.frozen 1) (HR.out.frozen 2))
          go_wp2_with fail
          obtain ⟨W9, hW, B9, fX, fD, fK⟩ := fill3 HR.out (.string n0) (.int .i64 v0) (.slice (some ⟨g, 0, none⟩) L c1)
          rw [← hW]; have E9 := HE.out.map (ty := 26) (by decide) (by decide) fX
          have D9 := fD b (by omega) HD.out
          have K9 := fK b w.heap.size w (by omega) HK.out
          clear hW fX fD fK r0 r1 r2 c0_ c1_ c2_ z0 z1 z2; have r0 : W9.cell? ⟨w.heap.size + 1, 0, none⟩ = some (.string n0) := B9.cell 0
          have r1 : W9.cell? ⟨w.heap.size + 1, 1, none⟩ = some (.int .i64 v0) := B9.cell 1
          have r2 : W9.cell? ⟨w.heap.size + 1, 2, none⟩ = some (.slice (some ⟨g, 0, none⟩) L c1) := B9.cell 2
          refine bodyPost_ret (v := .agg #[.string n0, .int .i64 v0, .slice (some ⟨g, 0, none⟩) L c1]) (by simp [results, Tryz.results23, go_sem, r0, r1, r2]) rfl ?_
          have hq : L = (ts.set k ({ ev with uid := n }, (.slice px ev.days.ex.length kx), (.slice py ev.days.xt.length ky))).length := by rw [List.length_set]; exact HL.out
          exact ⟨n0, v0, (some ⟨g, 0, none⟩), c1, ts.set k ({ ev with uid := n }, (.slice px ev.days.ex.length kx), (.slice py ev.days.xt.length ky)), by rw [← hq], by first | omega | (show 0 ≤ 1000; omega), by rw [← hq]; omega, by rw [← hq]; exact E9, D9, K9⟩
        · have hbB : b < w3.heap.size := HD4.out.lt
          have HD0 := HD4; clear HD4; go_wp2_with fail
          refine wp_region_tail 11 (by kernel_rfl) (fun listed a x => ∃ (l0 l1 l2 l3 l4 l5 l6 l7 l8 l9 l10 : Bool) (t55 t56 t57 t58 t59 t60 t61 t62 t63 t64 t65 : Value), listed = #[l0, l1, l2, l3, l4, l5, l6, l7, l8, l9, l10, false, false, false] ∧ a = ⟨(.pointer (some ⟨b, 0, none⟩) :: .agg #[.string n0, .int .i64 v0, .slice pu L cu] :: undef :: .pointer (some ⟨w.heap.size, 0, none⟩) :: .pointer (some ⟨w.heap.size + 1, 0, none⟩) :: .int .i64 L :: .pointer (some ⟨g, k * 13, none⟩) :: .pointer (some ⟨w.heap.size, 2, none⟩) :: .slice pu L cu :: .slice (some ⟨g, 0, none⟩) L c1 :: .pointer (some ⟨w.heap.size, 2, none⟩) :: .pointer (some ⟨w.heap.size, 2, none⟩) :: .slice (some ⟨g, 0, none⟩) L c1 :: .int .i64 L :: .int .i64 L :: .bool false :: undef :: undef :: undef :: undef :: undef :: undef :: undef :: t23 :: t24 :: t25 :: t26 :: t27 :: t28 :: .pointer (some ⟨b, 0, none⟩) :: .int .i64 2 :: undef :: undef :: undef :: undef :: undef :: undef :: undef :: undef :: undef :: .bool false :: .bool false :: undef :: .bool false :: .bool false :: undef :: undef :: undef :: undef :: undef :: undef :: undef :: undef :: .bool true :: .bool true :: t55 :: t56 :: t57 :: t58 :: t59 :: t60 :: t61 :: t62 :: t63 :: t64 :: t65 :: undef :: undef :: undef :: undef :: undef :: undef :: undef :: undef :: undef :: undef :: undef :: undef :: undef :: undef :: undef :: undef :: undef :: undef :: undef :: undef :: undef :: undef :: undef :: undef :: undef :: undef :: undef :: undef :: undef :: undef :: undef :: undef :: undef :: undef :: undef :: undef :: undef :: undef :: undef :: undef :: undef :: undef :: undef :: undef :: undef :: undef :: undef :: undef :: undef :: []).toArray, []⟩ ∧ Hid (l0 = true → t55 = .pointer (some ⟨g, k * 13, none⟩)) ∧ Hid (l1 = true → t56 = .pointer (some ⟨w.heap.size, 1, none⟩)) ∧ Hid (l2 = true → t57 = .int .i64 v0) ∧ Hid (l3 = true → t58 = .pointer (some ⟨w.heap.size, 1, none⟩)) ∧ Hid (l4 = true → t59 = .int .i64 v0) ∧ Hid (l5 = true → ∃ (n : Int), t60 = .int .i64 n) ∧ Hid (l6 = true → l9 = false → ∃ (a : Int) (g : Nat), t61 = .slice (some ⟨g, 0, none⟩) 3 3 ∧ w3.heap.size ≤ g ∧ Blk g #[.int .i64 0, .int .i64 v0, .int .i64 a] 3 x) ∧ Hid (l7 = true → t62 = .pointer (some ⟨b, 0, none⟩)) ∧ Hid (l8 = true → ∃ (n : Int), t63 = .int .i64 n ∧ 0 ≤ n ∧ n ≤ 2) ∧ Hid (l9 = true → l10 = false → ∃ (a : Int) (g : Nat) (kk : Nat), t64 = .pointer (some ⟨g, kk, none⟩) ∧ kk < 3 ∧ w3.heap.size ≤ g ∧ Blk g #[.int .i64 0, .int .i64 v0, .int .i64 a] 3 x) ∧ Hid (l10 = true → ∃ (n : Int), t65 = .int .i64 n) ∧ Hid (Sofar b w3 x)) (by decide) (by kernel_rfl) (by kernel_rfl) ?_ ?_ ?_ ?_
          · exact ⟨false, false, false, false, false, false, false, false, false, false, false, _, _, _, _, _, _, _, _, _, _, _, rfl, rfl, Lib.hid (fun h => by cases h), Lib.hid (fun h => by cases h), Lib.hid (fun h => by cases h), Lib.hid (fun h => by cases h), Lib.hid (fun h => by cases h), Lib.hid (fun h => by cases h), Lib.hid (fun h => by cases h), Lib.hid (fun h => by cases h), Lib.hid (fun h => by cases h), Lib.hid (fun h => by cases h), Lib.hid (fun h => by cases h), Lib.hid (Sofar.start HD0.out)⟩
          · intro listed a x hj; obtain ⟨l0, hj⟩ := hj
            obtain ⟨l1, hj⟩ := hj; obtain ⟨l2, hj⟩ := hj; obtain ⟨l3, hj⟩ := hj; obtain ⟨l4, hj⟩ := hj; obtain ⟨l5, hj⟩ := hj; obtain ⟨l6, hj⟩ := hj; obtain ⟨l7, hj⟩ := hj; obtain ⟨l8, hj⟩ := hj; obtain ⟨l9, hj⟩ := hj; obtain ⟨l10, hj⟩ := hj; obtain ⟨t55, hj⟩ := hj; obtain ⟨t56, hj⟩ := hj; obtain ⟨t57, hj⟩ := hj; obtain ⟨t58, hj⟩ := hj; obtain ⟨t59, hj⟩ := hj; obtain ⟨t60, hj⟩ := hj; obtain ⟨t61, hj⟩ := hj; obtain ⟨t62, hj⟩ := hj; obtain ⟨t63, hj⟩ := hj; obtain ⟨t64, hj⟩ := hj; obtain ⟨t65, hj⟩ := hj; obtain ⟨h1, -⟩ := hj; subst h1; exact ⟨rfl, fun k h1 h2 => by (have h2 : k < 14 := h2); rcases (show k = 11 ∨ k = 12 ∨ k = 13 by omega) with rfl | rfl | rfl <;> rfl⟩
          · intro listed a x i hj hlt hu haf; obtain ⟨l0, hj⟩ := hj
            obtain ⟨l1, hj⟩ := hj; obtain ⟨l2, hj⟩ := hj; obtain ⟨l3, hj⟩ := hj; obtain ⟨l4, hj⟩ := hj; obtain ⟨l5, hj⟩ := hj; obtain ⟨l6, hj⟩ := hj; obtain ⟨l7, hj⟩ := hj; obtain ⟨l8, hj⟩ := hj; obtain ⟨l9, hj⟩ := hj; obtain ⟨l10, hj⟩ := hj; obtain ⟨t55, hj⟩ := hj; obtain ⟨t56, hj⟩ := hj; obtain ⟨t57, hj⟩ := hj; obtain ⟨t58, hj⟩ := hj; obtain ⟨t59, hj⟩ := hj; obtain ⟨t60, hj⟩ := hj; obtain ⟨t61, hj⟩ := hj; obtain ⟨t62, hj⟩ := hj; obtain ⟨t63, hj⟩ := hj; obtain ⟨t64, hj⟩ := hj; obtain ⟨t65, hj⟩ := hj; obtain ⟨hl_, hj⟩ := hj; obtain ⟨ha_, hj⟩ := hj; obtain ⟨H0, hj⟩ := hj; obtain ⟨H1, hj⟩ := hj; obtain ⟨H2, hj⟩ := hj; obtain ⟨H3, hj⟩ := hj; obtain ⟨H4, hj⟩ := hj; obtain ⟨H5, hj⟩ := hj; obtain ⟨H6, hj⟩ := hj; obtain ⟨H7, hj⟩ := hj; obtain ⟨H8, hj⟩ := hj; obtain ⟨H9, hj⟩ := hj; obtain ⟨H10, hj⟩ := hj; have HS := hj; clear hj; subst hl_; subst ha_; rcases (show ∀ i : Nat, i < 11 → (i = 0 ∨ i = 1 ∨ i = 2 ∨ i = 3 ∨ i = 4 ∨ i = 5 ∨ i = 6 ∨ i = 7 ∨ i = 8 ∨ i = 9 ∨ i = 10) by decide) i hlt with rfl | rfl | rfl | rfl | rfl | rfl | rfl | rfl | rfl | rfl | rfl
            · have haf := haf _ rfl; clear haf
              have hu : l0 = false := hu
              refine wpOp_of_list_any rfl fun QQ hQ => ?_
              have hQQ := Lib.hid hQ; clear hQ; simp only [List.getElem_toArray, List.getElem_cons_zero]
              go_wp2_with fail
              exact hQQ.out _ _ ⟨true, l1, l2, l3, l4, l5, l6, l7, l8, l9, l10, _, _, _, _, _, _, _, _, _, _, _, rfl, rfl, Lib.hid (fun _ => rfl), H1, H2, H3, H4, H5, H6, H7, H8, H9, H10, HS⟩
            · have haf := haf _ rfl; clear haf
              have hu : l1 = false := hu
              refine wpOp_of_list_any rfl fun QQ hQ => ?_
              have hQQ := Lib.hid hQ; clear hQ; simp only [List.getElem_toArray, List.getElem_cons_zero, List.getElem_cons_succ]
              go_wp2_with fail
              exact hQQ.out _ _ ⟨l0, true, l2, l3, l4, l5, l6, l7, l8, l9, l10, _, _, _, _, _, _, _, _, _, _, _, rfl, rfl, H0, Lib.hid (fun _ => rfl), H2, H3, H4, H5, H6, H7, H8, H9, H10, HS⟩
            · have haf := haf _ rfl; have q1 : l1 = true := haf ⟨1, Go.Ground.data⟩ (by simp) rfl
              clear haf; have hu : l2 = false := hu
              have e1 := (H1.out q1)
              subst e1; clear H1; have hc : x.cell? ⟨w.heap.size, 1, none⟩ = some (.int .i64 v0) := (HS.out.blk HB4.out hSb).cell 1
              refine wpOp_of_list_any rfl fun QQ hQ => ?_
              have hQQ := Lib.hid hQ; clear hQ; simp only [List.getElem_toArray, List.getElem_cons_zero, List.getElem_cons_succ]
              go_wp2_with fail
              exact hQQ.out _ _ ⟨l0, l1, true, l3, l4, l5, l6, l7, l8, l9, l10, _, _, _, _, _, _, _, _, _, _, _, rfl, rfl, H0, Lib.hid (fun _ => rfl), Lib.hid (fun _ => rfl), H3, H4, H5, H6, H7, H8, H9, H10, HS⟩
            · have haf := haf _ rfl; clear haf
              have hu : l3 = false := hu
              refine wpOp_of_list_any rfl fun QQ hQ => ?_
              have hQQ := Lib.hid hQ; clear hQ; simp only [List.getElem_toArray, List.getElem_cons_zero, List.getElem_cons_succ]
              go_wp2_with fail
              exact hQQ.out _ _ ⟨l0, l1, l2, true, l4, l5, l6, l7, l8, l9, l10, _, _, _, _, _, _, _, _, _, _, _, rfl, rfl, H0, H1, H2, Lib.hid (fun _ => rfl), H4, H5, H6, H7, H8, H9, H10, HS⟩
            · have haf := haf _ rfl; have q3 : l3 = true := haf ⟨3, Go.Ground.data⟩ (by simp) rfl
              clear haf; have hu : l4 = false := hu
              have e3 := (H3.out q3)
              subst e3; clear H3; have hc : x.cell? ⟨w.heap.size, 1, none⟩ = some (.int .i64 v0) := (HS.out.blk HB4.out hSb).cell 1
              refine wpOp_of_list_any rfl fun QQ hQ => ?_
              have hQQ := Lib.hid hQ; clear hQ; simp only [List.getElem_toArray, List.getElem_cons_zero, List.getElem_cons_succ]
              go_wp2_with fail
              exact hQQ.out _ _ ⟨l0, l1, l2, l3, true, l5, l6, l7, l8, l9, l10, _, _, _, _, _, _, _, _, _, _, _, rfl, rfl, H0, H1, H2, Lib.hid (fun _ => rfl), Lib.hid (fun _ => rfl), H5, H6, H7, H8, H9, H10, HS⟩
            · have haf := haf _ rfl; have q4 : l4 = true := haf ⟨4, Go.Ground.data⟩ (by simp) rfl
              clear haf; have hu : l5 = false := hu
              have e4 := (H4.out q4)
              subst e4; clear H4; refine wpOp_of_list_any rfl fun QQ hQ => ?_
              have hQQ := Lib.hid hQ; clear hQ; simp only [List.getElem_toArray, List.getElem_cons_zero, List.getElem_cons_succ]
              go_wp2_with fail
              exact hQQ.out _ _ ⟨l0, l1, l2, l3, l4, true, l6, l7, l8, l9, l10, _, _, _, _, _, _, _, _, _, _, _, rfl, rfl, H0, H1, H2, H3, Lib.hid (fun _ => rfl), Lib.hid (fun _ => ⟨_, rfl⟩), H6, H7, H8, H9, H10, HS⟩
            · have haf := haf _ rfl; have q2 : l2 = true := haf ⟨2, Go.Ground.data⟩ (by simp) rfl
              have q5 : l5 = true := haf ⟨5, Go.Ground.data⟩ (by simp) rfl
              clear haf; have hu : l6 = false := hu
              have e2 := (H2.out q2)
              subst e2; clear H2; obtain ⟨n5, e5⟩ := (H5.out q5)
              subst e5; clear H5; refine wpOp_of_list_any rfl fun QQ hQ => ?_
              have hQQ := Lib.hid hQ; clear hQ; simp only [List.getElem_toArray, List.getElem_cons_zero, List.getElem_cons_succ]
              go_wp2_with fail
              exact hQQ.out _ _ ⟨l0, l1, l2, l3, l4, l5, true, l7, l8, l9, l10, _, _, _, _, _, _, _, _, _, _, _, rfl, rfl, H0, H1, Lib.hid (fun _ => rfl), H3, H4, Lib.hid (fun _ => ⟨n5, rfl⟩), Lib.hid (fun _ _ => ⟨_, _, rfl, HS.out.but.size, Blk.new x _ _⟩), H7, H8, Lib.hid (fun h h2 => (by obtain ⟨a, g, kk, e, c0, c1, c2⟩ := H9.out h h2; exact ⟨a, g, kk, e, c0, c1, ((Kept.alloc _ x _) _ _ _ c1 c2)⟩)), H10, Lib.hid (HS.out.alloc _)⟩
            · have haf := haf _ rfl; clear haf
              have hu : l7 = false := hu
              refine wpOp_of_list_any rfl fun QQ hQ => ?_
              have hQQ := Lib.hid hQ; clear hQ; simp only [List.getElem_toArray, List.getElem_cons_zero, List.getElem_cons_succ]
              go_wp2_with fail
              exact hQQ.out _ _ ⟨l0, l1, l2, l3, l4, l5, l6, true, l8, l9, l10, _, _, _, _, _, _, _, _, _, _, _, rfl, rfl, H0, H1, H2, H3, H4, H5, H6, Lib.hid (fun _ => rfl), H8, H9, H10, HS⟩
            · have haf := haf _ rfl; have q7 : l7 = true := haf ⟨7, Go.Ground.data⟩ (by simp) rfl
              clear haf; have hu : l8 = false := hu
              have e7 := (H7.out q7)
              subst e7; clear H7; refine wpOp_of_list_any rfl fun QQ hQ => ?_
              have hQQ := Lib.hid hQ; clear hQ; simp only [List.getElem_toArray, List.getElem_cons_zero, List.getElem_cons_succ]
              go_wp2_with fail
              refine (next_any b 3 _ HS.out.dice (by omega) (by omega)).mono ?_
              rintro e x1 ⟨v, rfl, h0, h1, -, hd1, ho1⟩; have h1 := h1 (by omega)
              have hk := Kept.only ho1 hbB; have HS1 := Lib.hid (HS.out.only hd1 ho1)
              clear ho1 hd1; go_wp2_with fail
              exact hQQ.out _ _ ⟨l0, l1, l2, l3, l4, l5, l6, l7, true, l9, l10, _, _, _, _, _, _, _, _, _, _, _, rfl, rfl, H0, H1, H2, H3, H4, H5, Lib.hid (fun h h2 => (by obtain ⟨a, g, e, c0, c1⟩ := H6.out h h2; exact ⟨a, g, e, c0, (hk _ _ _ c0 c1)⟩)), Lib.hid (fun _ => rfl), Lib.hid (fun _ => ⟨_, rfl, by omega, by omega⟩), Lib.hid (fun h h2 => (by obtain ⟨a, g, kk, e, c0, c1, c2⟩ := H9.out h h2; exact ⟨a, g, kk, e, c0, c1, (hk _ _ _ c1 c2)⟩)), H10, HS1⟩
            · have haf := haf _ rfl; have q6 : l6 = true := haf ⟨6, Go.Ground.data⟩ (by simp) rfl
              have q8 : l8 = true := haf ⟨8, Go.Ground.data⟩ (by simp) rfl
              clear haf; have hu : l9 = false := hu
              obtain ⟨a6, g6, e6, c6_0, c6_1⟩ := (H6.out q6 hu)
              subst e6; clear H6; obtain ⟨n8, e8, c8_0, c8_1⟩ := (H8.out q8)
              subst e8; clear H8; refine wpOp_of_list_any rfl fun QQ hQ => ?_
              have hQQ := Lib.hid hQ; clear hQ; simp only [List.getElem_toArray, List.getElem_cons_zero, List.getElem_cons_succ]
              go_wp2_with fail
              exact hQQ.out _ _ ⟨l0, l1, l2, l3, l4, l5, l6, l7, l8, true, l10, _, _, _, _, _, _, _, _, _, _, _, rfl, rfl, H0, H1, H2, H3, H4, H5, Lib.hid (fun _ h => by cases h), H7, Lib.hid (fun _ => ⟨n8, rfl, c8_0, c8_1⟩), Lib.hid (fun _ _ => ⟨_, _, _, rfl, by omega, c6_0, c6_1⟩), H10, HS⟩
            · have haf := haf _ rfl; have q9 : l9 = true := haf ⟨9, Go.Ground.data⟩ (by simp) rfl
              clear haf; have hu : l10 = false := hu
              obtain ⟨a9, g9, kk9, e9, c9_0, c9_1, c9_2⟩ := (H9.out q9 hu)
              subst e9; clear H9; obtain ⟨q, hc⟩ : ∃ q, x.cell? ⟨g9, kk9, none⟩ = some (.int .i64 q) := by
                rcases (show kk9 = 0 ∨ kk9 = 1 ∨ kk9 = 2 by omega) with rfl | rfl | rfl
                · exact ⟨_, c9_2.cell 0⟩
                · exact ⟨_, c9_2.cell 1⟩
                · exact ⟨_, c9_2.cell 2⟩
              refine wpOp_of_list_any rfl fun QQ hQ => ?_
              have hQQ := Lib.hid hQ; clear hQ; simp only [List.getElem_toArray, List.getElem_cons_zero, List.getElem_cons_succ]
              go_wp2_with fail
              exact hQQ.out _ _ ⟨l0, l1, l2, l3, l4, l5, l6, l7, l8, l9, true, _, _, _, _, _, _, _, _, _, _, _, rfl, rfl, H0, H1, H2, H3, H4, H5, H6, H7, H8, Lib.hid (fun _ h => by cases h), Lib.hid (fun _ => ⟨_, rfl⟩), HS⟩
          · intro listed a x hj hall; obtain ⟨l0, hj⟩ := hj
            obtain ⟨l1, hj⟩ := hj; obtain ⟨l2, hj⟩ := hj; obtain ⟨l3, hj⟩ := hj; obtain ⟨l4, hj⟩ := hj; obtain ⟨l5, hj⟩ := hj; obtain ⟨l6, hj⟩ := hj; obtain ⟨l7, hj⟩ := hj; obtain ⟨l8, hj⟩ := hj; obtain ⟨l9, hj⟩ := hj; obtain ⟨l10, hj⟩ := hj; obtain ⟨t55, hj⟩ := hj; obtain ⟨t56, hj⟩ := hj; obtain ⟨t57, hj⟩ := hj; obtain ⟨t58, hj⟩ := hj; obtain ⟨t59, hj⟩ := hj; obtain ⟨t60, hj⟩ := hj; obtain ⟨t61, hj⟩ := hj; obtain ⟨t62, hj⟩ := hj; obtain ⟨t63, hj⟩ := hj; obtain ⟨t64, hj⟩ := hj; obtain ⟨t65, hj⟩ := hj; obtain ⟨hl_, hj⟩ := hj; obtain ⟨ha_, hj⟩ := hj; obtain ⟨H0, hj⟩ := hj; obtain ⟨H1, hj⟩ := hj; obtain ⟨H2, hj⟩ := hj; obtain ⟨H3, hj⟩ := hj; obtain ⟨H4, hj⟩ := hj; obtain ⟨H5, hj⟩ := hj; obtain ⟨H6, hj⟩ := hj; obtain ⟨H7, hj⟩ := hj; obtain ⟨H8, hj⟩ := hj; obtain ⟨H9, hj⟩ := hj; obtain ⟨H10, hj⟩ := hj; have HS := hj; clear hj; subst hl_; subst ha_; have q0 : l0 = true := hall 0 (by omega)
            have q10 : l10 = true := hall 10 (by omega)
            clear hall; have e0 := (H0.out q0)
            subst e0; obtain ⟨n10, e10⟩ := (H10.out q10)
            subst e10; have B := HS.out.blk HB4.out hSb
            have R := HS.out.blk HR4.out hRb
            have E := HE4.out.but hb HS.out.but
            have D := HS.out.dice; have K := but_then HK4.out HS.out.but HK4.out.size
            have f5 : x.cell? ⟨g, k * 13 + 1, none⟩ = some (.int .i64 ev.seq) := E.cell HL.out.symm k 1 (ev, (.slice px ev.days.ex.length kx), (.slice py ev.days.xt.length ky)) _ HT.out (by decide) rfl
            have z5 := E.frz HL.out.symm (k * 13 + 1)
            have HE := Lib.hid (show RowE lo (x.setCell ⟨g, k * 13 + 1, none⟩ (.int .i64 n10)) (.slice (some ⟨g, 0, none⟩) L c1) (ts.set k ({ ev with seq := n10 }, (.slice px ev.days.ex.length kx), (.slice py ev.days.xt.length ky))) from E.put k 1 (ev, (.slice px ev.days.ex.length kx), (.slice py ev.days.xt.length ky)) ({ ev with seq := n10 }, (.slice px ev.days.ex.length kx), (.slice py ev.days.xt.length ky)) (.int .i64 n10) HT.out (by decide) HL.out.symm rfl ⟨⟨HGG.out.ex, HGG.out.xt, HGG.out.uid, HGG.out.summ, HGG.out.loc⟩, (E.ref _ (List.mem_of_getElem? HT.out)).2.1, (E.ref _ (List.mem_of_getElem? HT.out)).2.2⟩)
            have HB := Lib.hid (B.set_other hSg (k * 13 + 1) (.int .i64 n10))
            have HR := Lib.hid (R.set_other hRg (k * 13 + 1) (.int .i64 n10))
            have HD := Lib.hid (dice_set (i := k * 13 + 1) (u := .int .i64 n10) D hbg)
            have HK := Lib.hid (but_set (i := k * 13 + 1) (u := .int .i64 n10) K hg1)
            refine tail_any (fun a x => ∃ (t55 t56 t57 t58 t59 t60 t61 t62 t63 t64 t65 t66 t67 : Value), a = ⟨(.pointer (some ⟨b, 0, none⟩) :: .agg #[.string n0, .int .i64 v0, .slice pu L cu] :: undef :: .pointer (some ⟨w.heap.size, 0, none⟩) :: .pointer (some ⟨w.heap.size + 1, 0, none⟩) :: .int .i64 L :: .pointer (some ⟨g, k * 13, none⟩) :: .pointer (some ⟨w.heap.size, 2, none⟩) :: .slice pu L cu :: .slice (some ⟨g, 0, none⟩) L c1 :: .pointer (some ⟨w.heap.size, 2, none⟩) :: .pointer (some ⟨w.heap.size, 2, none⟩) :: .slice (some ⟨g, 0, none⟩) L c1 :: .int .i64 L :: .int .i64 L :: .bool false :: undef :: undef :: undef :: undef :: undef :: undef :: undef :: t23 :: t24 :: t25 :: t26 :: t27 :: t28 :: .pointer (some ⟨b, 0, none⟩) :: .int .i64 2 :: undef :: undef :: undef :: undef :: undef :: undef :: undef :: undef :: undef :: .bool false :: .bool false :: undef :: .bool false :: .bool false :: undef :: undef :: undef :: undef :: undef :: undef :: undef :: undef :: .bool true :: .bool true :: t55 :: t56 :: t57 :: t58 :: t59 :: t60 :: t61 :: t62 :: t63 :: t64 :: t65 :: t66 :: t67 :: undef :: undef :: undef :: undef :: undef :: undef :: undef :: undef :: undef :: undef :: undef :: undef :: undef :: undef :: undef :: undef :: undef :: undef :: undef :: undef :: undef :: undef :: undef :: undef :: undef :: undef :: undef :: undef :: undef :: undef :: undef :: undef :: undef :: undef :: undef :: undef :: undef :: undef :: undef :: undef :: undef :: undef :: undef :: undef :: undef :: undef :: undef :: []).toArray, []⟩ ∧ ∃ n : Int, Blk w.heap.size #[.string n0, .int .i64 v0, .slice (some ⟨g, 0, none⟩) L c1] 26 x ∧ Blk (w.heap.size + 1) #[.string ⟨#[]⟩, .int .i64 0, .slice none 0 0] 26 x ∧ RowE lo x (.slice (some ⟨g, 0, none⟩) L c1) (ts.set k ({ ev with seq := n }, (.slice px ev.days.ex.length kx), (.slice py ev.days.xt.length ky))) ∧ Dice b x ∧ But b w.heap.size w x) ?_ fun QQ hQ => ?_
            · intro a x hpost; obtain ⟨t55, hpost⟩ := hpost
              obtain ⟨t56, hpost⟩ := hpost; obtain ⟨t57, hpost⟩ := hpost; obtain ⟨t58, hpost⟩ := hpost; obtain ⟨t59, hpost⟩ := hpost; obtain ⟨t60, hpost⟩ := hpost; obtain ⟨t61, hpost⟩ := hpost; obtain ⟨t62, hpost⟩ := hpost; obtain ⟨t63, hpost⟩ := hpost; obtain ⟨t64, hpost⟩ := hpost; obtain ⟨t65, hpost⟩ := hpost; obtain ⟨t66, hpost⟩ := hpost; obtain ⟨t67, hpost⟩ := hpost; obtain ⟨ha_, hpost⟩ := hpost; subst ha_; obtain ⟨n, p1_, p2_, p3_, p4_, p5_⟩ := hpost; have HB := Lib.hid p1_; have HR := Lib.hid p2_; have HE := Lib.hid p3_; have HD := Lib.hid p4_; have HK := Lib.hid p5_; clear p1_ p2_ p3_ p4_ p5_ HB4 HR4 HE4 HD0 HK4; go_upto_region 25 with (fail)
              obtain ⟨c0_, c1_, c2_⟩ := And.intro (HB.out.cell 0) (And.intro (HB.out.cell 1) (HB.out.cell 2))
              simp only [List.getElem?_toArray, List.getElem?_cons_zero, List.getElem?_cons_succ] at c0_ c1_ c2_
              obtain ⟨r0, r1, r2⟩ := And.intro (HR.out.cell 0) (And.intro (HR.out.cell 1) (HR.out.cell 2))
              simp only [List.getElem?_toArray, List.getElem?_cons_zero, List.getElem?_cons_succ] at r0 r1 r2
              obtain ⟨z0, z1, z2⟩ := And.intro (HR.out.frozen 0) (And.intro (HR.out.frozen 1) (HR.out.frozen 2))
              go_wp2_with fail
              obtain ⟨W9, hW, B9, fX, fD, fK⟩ := fill3 HR.out (.string n0) (.int .i64 v0) (.slice (some ⟨g, 0, none⟩) L c1)
              rw [← hW]; have E9 := HE.out.map (ty := 26) (by decide) (by decide) fX
              have D9 := fD b (by omega) HD.out
              have K9 := fK b w.heap.size w (by omega) HK.out
              clear hW fX fD fK r0 r1 r2 c0_ c1_ c2_ z0 z1 z2; have r0 : W9.cell? ⟨w.heap.size + 1, 0, none⟩ = some (.string n0) := B9.cell 0
              have r1 : W9.cell? ⟨w.heap.size + 1, 1, none⟩ = some (.int .i64 v0) := B9.cell 1
              have r2 : W9.cell? ⟨w.heap.size + 1, 2, none⟩ = some (.slice (some ⟨g, 0, none⟩) L c1) := B9.cell 2
              refine bodyPost_ret (v := .agg #[.string n0, .int .i64 v0, .slice (some ⟨g, 0, none⟩) L c1]) (by simp [results, Tryz.results23, go_sem, r0, r1, r2]) rfl ?_
              have hq : L = (ts.set k ({ ev with seq := n }, (.slice px ev.days.ex.length kx), (.slice py ev.days.xt.length ky))).length := by rw [List.length_set]; exact HL.out
              exact ⟨n0, v0, (some ⟨g, 0, none⟩), c1, ts.set k ({ ev with seq := n }, (.slice px ev.days.ex.length kx), (.slice py ev.days.xt.length ky)), by rw [← hq], by first | omega | (show 0 ≤ 1000; omega), by rw [← hq]; omega, by rw [← hq]; exact E9, D9, K9⟩
            have hQQ := Lib.hid hQ; clear hQ; simp only [List.drop_succ_cons, List.drop_zero]
            go_wp2_with fail
            exact hQQ.out _ _ ⟨_, _, _, _, _, _, _, _, _, _, _, _, _, rfl, _, HB.out, HR.out, HE.out, HD.out, HK.out⟩
        · have E := HE4.out; have f3_ : w3.cell? ⟨g, k * 13 + 3, none⟩ = some (.int .i64 ev.days.first) := E.cell HL.out.symm k 3 (ev, (.slice px ev.days.ex.length kx), (.slice py ev.days.xt.length ky)) _ HT.out (by decide) rfl
          have f4_ : w3.cell? ⟨g, k * 13 + 4, none⟩ = some (.int .i64 ev.days.last) := E.cell HL.out.symm k 4 (ev, (.slice px ev.days.ex.length kx), (.slice py ev.days.xt.length ky)) _ HT.out (by decide) rfl
          have f5_ : w3.cell? ⟨g, k * 13 + 5, none⟩ = some (.int .i64 ev.days.every) := E.cell HL.out.symm k 5 (ev, (.slice px ev.days.ex.length kx), (.slice py ev.days.xt.length ky)) _ HT.out (by decide) rfl
          have f6_ : w3.cell? ⟨g, k * 13 + 6, none⟩ = some (.int .i64 ev.days.wd) := E.cell HL.out.symm k 6 (ev, (.slice px ev.days.ex.length kx), (.slice py ev.days.xt.length ky)) _ HT.out (by decide) rfl
          have f7_ : w3.cell? ⟨g, k * 13 + 7, none⟩ = some (.slice px ev.days.ex.length kx) := E.cell HL.out.symm k 7 (ev, (.slice px ev.days.ex.length kx), (.slice py ev.days.xt.length ky)) _ HT.out (by decide) rfl
          have f8_ : w3.cell? ⟨g, k * 13 + 8, none⟩ = some (.slice py ev.days.xt.length ky) := E.cell HL.out.symm k 8 (ev, (.slice px ev.days.ex.length kx), (.slice py ev.days.xt.length ky)) _ HT.out (by decide) rfl
          have gX := (E.ref _ (List.mem_of_getElem? HT.out)).2.1
          have gY := (E.ref _ (List.mem_of_getElem? HT.out)).2.2
          have hlo3 : lo ≤ w3.heap.size := by have := HK4.out.size; omega
          go_wp2_with fail
          refine (oddseries79 b lo ev.days px py kx ky w3 HD4.out hb hlo3 gX gY HGS.out.ex HGS.out.xt).mono ?_
          rintro e w4 ⟨s2, u1, u2, rfl, X4, T4, hx4, ht4, D, ho4⟩; obtain ⟨p4, q4, h4⟩ := X4.slice
          obtain ⟨p5, q5, h5⟩ := T4.slice
          subst h4; subst h5; have B := HB4.out.but ho4 hSb; have R := HR4.out.but ho4 hRb; have E := HE4.out.but hb ho4; have K := but_then HK4.out ho4 HK4.out.size
          clear f3_ f4_ f5_ f6_ f7_ f8_; have f3_ : w4.cell? ⟨g, k * 13 + 3, none⟩ = some (.int .i64 ev.days.first) := E.cell HL.out.symm k 3 (ev, (.slice px ev.days.ex.length kx), (.slice py ev.days.xt.length ky)) _ HT.out (by decide) rfl
          have f4_ : w4.cell? ⟨g, k * 13 + 4, none⟩ = some (.int .i64 ev.days.last) := E.cell HL.out.symm k 4 (ev, (.slice px ev.days.ex.length kx), (.slice py ev.days.xt.length ky)) _ HT.out (by decide) rfl
          have f5_ : w4.cell? ⟨g, k * 13 + 5, none⟩ = some (.int .i64 ev.days.every) := E.cell HL.out.symm k 5 (ev, (.slice px ev.days.ex.length kx), (.slice py ev.days.xt.length ky)) _ HT.out (by decide) rfl
          have f6_ : w4.cell? ⟨g, k * 13 + 6, none⟩ = some (.int .i64 ev.days.wd) := E.cell HL.out.symm k 6 (ev, (.slice px ev.days.ex.length kx), (.slice py ev.days.xt.length ky)) _ HT.out (by decide) rfl
          have f7_ : w4.cell? ⟨g, k * 13 + 7, none⟩ = some (.slice px ev.days.ex.length kx) := E.cell HL.out.symm k 7 (ev, (.slice px ev.days.ex.length kx), (.slice py ev.days.xt.length ky)) _ HT.out (by decide) rfl
          have f8_ : w4.cell? ⟨g, k * 13 + 8, none⟩ = some (.slice py ev.days.xt.length ky) := E.cell HL.out.symm k 8 (ev, (.slice px ev.days.ex.length kx), (.slice py ev.days.xt.length ky)) _ HT.out (by decide) rfl
          have z3_ := E.frz HL.out.symm (k * 13 + 3)
          have z4_ := E.frz HL.out.symm (k * 13 + 4)
          have z5_ := E.frz HL.out.symm (k * 13 + 5)
          have z6_ := E.frz HL.out.symm (k * 13 + 6)
          have z7_ := E.frz HL.out.symm (k * 13 + 7)
          have z8_ := E.frz HL.out.symm (k * 13 + 8)
          have HE := Lib.hid (E.days k ev _ _ (.slice p4 s2.ex.length q4) (.slice p5 s2.xt.length q5) s2 HT.out HL.out.symm ⟨by show s2.ex.length ≤ 2000; omega, by show s2.xt.length ≤ 2000; omega, HGG.out.uid, HGG.out.summ, HGG.out.loc⟩ X4 T4)
          have HB := Lib.hid (((((((B).set_other hSg (k * 13 + 3) (.int .i64 s2.first)).set_other hSg (k * 13 + 4) (.int .i64 s2.last)).set_other hSg (k * 13 + 5) (.int .i64 s2.every)).set_other hSg (k * 13 + 6) (.int .i64 s2.wd)).set_other hSg (k * 13 + 7) (.slice p4 s2.ex.length q4)).set_other hSg (k * 13 + 8) (.slice p5 s2.xt.length q5))
          have HR := Lib.hid (((((((R).set_other hRg (k * 13 + 3) (.int .i64 s2.first)).set_other hRg (k * 13 + 4) (.int .i64 s2.last)).set_other hRg (k * 13 + 5) (.int .i64 s2.every)).set_other hRg (k * 13 + 6) (.int .i64 s2.wd)).set_other hRg (k * 13 + 7) (.slice p4 s2.ex.length q4)).set_other hRg (k * 13 + 8) (.slice p5 s2.xt.length q5))
          have HD := Lib.hid (dice_set (i := k * 13 + 8) (u := (.slice p5 s2.xt.length q5)) (dice_set (i := k * 13 + 7) (u := (.slice p4 s2.ex.length q4)) (dice_set (i := k * 13 + 6) (u := (.int .i64 s2.wd)) (dice_set (i := k * 13 + 5) (u := (.int .i64 s2.every)) (dice_set (i := k * 13 + 4) (u := (.int .i64 s2.last)) (dice_set (i := k * 13 + 3) (u := (.int .i64 s2.first)) (D) hbg) hbg) hbg) hbg) hbg) hbg)
          have HK := Lib.hid (but_set (i := k * 13 + 8) (u := (.slice p5 s2.xt.length q5)) (but_set (i := k * 13 + 7) (u := (.slice p4 s2.ex.length q4)) (but_set (i := k * 13 + 6) (u := (.int .i64 s2.wd)) (but_set (i := k * 13 + 5) (u := (.int .i64 s2.every)) (but_set (i := k * 13 + 4) (u := (.int .i64 s2.last)) (but_set (i := k * 13 + 3) (u := (.int .i64 s2.first)) (K) hg1) hg1) hg1) hg1) hg1) hg1)
          clear B R E D K HB4 HR4 HE4 HD4 HK4 X4 T4 gX gY ho4; unfold serVal
          go_upto_region 25 with (fail)
          clear f3_ z3_ f4_ z4_ f5_ z5_ f6_ z6_ f7_ z7_ f8_ z8_; obtain ⟨W, hW⟩ : ∃ W, W = (((((w4.setCell ⟨g, k * 13 + 3, none⟩ (.int .i64 s2.first)).setCell ⟨g, k * 13 + 4, none⟩ (.int .i64 s2.last)).setCell ⟨g, k * 13 + 5, none⟩ (.int .i64 s2.every)).setCell ⟨g, k * 13 + 6, none⟩ (.int .i64 s2.wd)).setCell ⟨g, k * 13 + 7, none⟩ (.slice p4 s2.ex.length q4)).setCell ⟨g, k * 13 + 8, none⟩ (.slice p5 s2.xt.length q5) := ⟨_, rfl⟩
          rw [← hW] at HB HR HE HD HK ⊢
          clear hW; obtain ⟨c0_, c1_, c2_⟩ := And.intro (HB.out.cell 0) (And.intro (HB.out.cell 1) (HB.out.cell 2))
          simp only [List.getElem?_toArray, List.getElem?_cons_zero, List.getElem?_cons_succ] at c0_ c1_ c2_
          obtain ⟨r0, r1, r2⟩ := And.intro (HR.out.cell 0) (And.intro (HR.out.cell 1) (HR.out.cell 2))
          simp only [List.getElem?_toArray, List.getElem?_cons_zero, List.getElem?_cons_succ] at r0 r1 r2
          obtain ⟨z0, z1, z2⟩ := And.intro (HR.out.frozen 0) (And.intro (HR.out.frozen 1) (HR.out.frozen 2))
          go_wp2_with fail
          obtain ⟨W9, hW, B9, fX, fD, fK⟩ := fill3 HR.out (.string n0) (.int .i64 v0) (.slice (some ⟨g, 0, none⟩) L c1)
          rw [← hW]; have E9 := HE.out.map (ty := 26) (by decide) (by decide) fX
          have D9 := fD b (by omega) HD.out
          have K9 := fK b w.heap.size w (by omega) HK.out
          clear hW fX fD fK r0 r1 r2 c0_ c1_ c2_ z0 z1 z2; have r0 : W9.cell? ⟨w.heap.size + 1, 0, none⟩ = some (.string n0) := B9.cell 0
          have r1 : W9.cell? ⟨w.heap.size + 1, 1, none⟩ = some (.int .i64 v0) := B9.cell 1
          have r2 : W9.cell? ⟨w.heap.size + 1, 2, none⟩ = some (.slice (some ⟨g, 0, none⟩) L c1) := B9.cell 2
          refine bodyPost_ret (v := .agg #[.string n0, .int .i64 v0, .slice (some ⟨g, 0, none⟩) L c1]) (by simp [results, Tryz.results23, go_sem, r0, r1, r2]) rfl ?_
          have hq : L = (ts.set k ({ ev with days := s2 }, .slice p4 s2.ex.length q4, .slice p5 s2.xt.length q5)).length := by rw [List.length_set]; exact HL.out
          exact ⟨n0, v0, (some ⟨g, 0, none⟩), c1, ts.set k ({ ev with days := s2 }, .slice p4 s2.ex.length q4, .slice p5 s2.xt.length q5), by rw [← hq], by first | omega | (show 0 ≤ 1000; omega), by rw [← hq]; omega, by rw [← hq]; exact E9, D9, K9⟩
        · go_wp2_with fail
          have hgb2 : w3.heap.size ≠ b := by have := HD4.out.lt; omega
          have HG1 := Lib.hid (Blk.new w3 #[.int .i64 (-1), .int .i64 1439, .int .i64 1440] 3)
          refine (next_any b 3 _ (dice_alloc HD4.out _) (by omega) (by omega)).mono ?_
          rintro e w4 ⟨a, rfl, a0, a1, -, D, ho4⟩; have a1 := a1 (by omega)
          have hG := HG1.out.only ho4 hgb2; have B := (HB4.out.alloc (.cells #[.int .i64 (-1), .int .i64 1439, .int .i64 1440] 3)).only ho4 hSb
          have R := (HR4.out.alloc (.cells #[.int .i64 (-1), .int .i64 1439, .int .i64 1440] 3)).only ho4 hRb
          have E := (HE4.out.alloc (.cells #[.int .i64 (-1), .int .i64 1439, .int .i64 1440] 3)).only hb ho4
          have K := but_only (but_alloc HK4.out HK4.out.size (.cells #[.int .i64 (-1), .int .i64 1439, .int .i64 1440] 3)) ho4
          obtain ⟨n, hc⟩ : ∃ n, w4.cell? ⟨w3.heap.size, a.toNat, none⟩ = some (.int .i64 n) := by
            rcases (show a = 0 ∨ a = 1 ∨ a = 2 by omega) with rfl | rfl | rfl
            · exact ⟨_, hG.cell 0⟩
            · exact ⟨_, hG.cell 1⟩
            · exact ⟨_, hG.cell 2⟩
          have f5 : w4.cell? ⟨g, k * 13 + 9, none⟩ = some (.int .i64 ev.start) := E.cell HL.out.symm k 9 (ev, (.slice px ev.days.ex.length kx), (.slice py ev.days.xt.length ky)) _ HT.out (by decide) rfl
          have z5 := E.frz HL.out.symm (k * 13 + 9)
          have HE := Lib.hid (show RowE lo (w4.setCell ⟨g, k * 13 + 9, none⟩ (.int .i64 n)) (.slice (some ⟨g, 0, none⟩) L c1) (ts.set k ({ ev with start := n }, (.slice px ev.days.ex.length kx), (.slice py ev.days.xt.length ky))) from E.put k 9 (ev, (.slice px ev.days.ex.length kx), (.slice py ev.days.xt.length ky)) ({ ev with start := n }, (.slice px ev.days.ex.length kx), (.slice py ev.days.xt.length ky)) (.int .i64 n) HT.out (by decide) HL.out.symm rfl ⟨⟨HGG.out.ex, HGG.out.xt, HGG.out.uid, HGG.out.summ, HGG.out.loc⟩, (E.ref _ (List.mem_of_getElem? HT.out)).2.1, (E.ref _ (List.mem_of_getElem? HT.out)).2.2⟩)
          have HB := Lib.hid (B.set_other hSg (k * 13 + 9) (.int .i64 n))
          have HR := Lib.hid (R.set_other hRg (k * 13 + 9) (.int .i64 n))
          have HD := Lib.hid (dice_set (i := k * 13 + 9) (u := .int .i64 n) D hbg)
          have HK := Lib.hid (but_set (i := k * 13 + 9) (u := .int .i64 n) K hg1)
          clear B R E D K HB4 HR4 HE4 HD4 HK4 hG HG1 ho4; go_upto_region 25 with (fail)
          clear f5 z5 hc; obtain ⟨W, hW⟩ : ∃ W, W = w4.setCell ⟨g, k * 13 + 9, none⟩ (.int .i64 n) := ⟨_, rfl⟩
          rw [← hW] at HB HR HE HD HK ⊢
          clear hW; obtain ⟨c0_, c1_, c2_⟩ := And.intro (HB.out.cell 0) (And.intro (HB.out.cell 1) (HB.out.cell 2))
          simp only [List.getElem?_toArray, List.getElem?_cons_zero, List.getElem?_cons_succ] at c0_ c1_ c2_
          obtain ⟨r0, r1, r2⟩ := And.intro (HR.out.cell 0) (And.intro (HR.out.cell 1) (HR.out.cell 2))
          simp only [List.getElem?_toArray, List.getElem?_cons_zero, List.getElem?_cons_succ] at r0 r1 r2
          obtain ⟨z0, z1, z2⟩ := And.intro (HR.out.frozen 0) (And.intro (HR.out.frozen 1) (HR.out.frozen 2))
          go_wp2_with fail
          obtain ⟨W9, hW, B9, fX, fD, fK⟩ := fill3 HR.out (.string n0) (.int .i64 v0) (.slice (some ⟨g, 0, none⟩) L c1)
          rw [← hW]; have E9 := HE.out.map (ty := 26) (by decide) (by decide) fX
          have D9 := fD b (by omega) HD.out
          have K9 := fK b w.heap.size w (by omega) HK.out
          clear hW fX fD fK r0 r1 r2 c0_ c1_ c2_ z0 z1 z2; have r0 : W9.cell? ⟨w.heap.size + 1, 0, none⟩ = some (.string n0) := B9.cell 0
          have r1 : W9.cell? ⟨w.heap.size + 1, 1, none⟩ = some (.int .i64 v0) := B9.cell 1
          have r2 : W9.cell? ⟨w.heap.size + 1, 2, none⟩ = some (.slice (some ⟨g, 0, none⟩) L c1) := B9.cell 2
          refine bodyPost_ret (v := .agg #[.string n0, .int .i64 v0, .slice (some ⟨g, 0, none⟩) L c1]) (by simp [results, Tryz.results23, go_sem, r0, r1, r2]) rfl ?_
          have hq : L = (ts.set k ({ ev with start := n }, (.slice px ev.days.ex.length kx), (.slice py ev.days.xt.length ky))).length := by rw [List.length_set]; exact HL.out
          exact ⟨n0, v0, (some ⟨g, 0, none⟩), c1, ts.set k ({ ev with start := n }, (.slice px ev.days.ex.length kx), (.slice py ev.days.xt.length ky)), by rw [← hq], by first | omega | (show 0 ≤ 1000; omega), by rw [← hq]; omega, by rw [← hq]; exact E9, D9, K9⟩
        · go_wp2_with fail
          have hgb2 : w3.heap.size ≠ b := by have := HD4.out.lt; omega
          have HG1 := Lib.hid (Blk.new w3 #[.int .i64 0, .int .i64 1440, .int .i64 1441] 3)
          refine (next_any b 3 _ (dice_alloc HD4.out _) (by omega) (by omega)).mono ?_
          rintro e w4 ⟨a, rfl, a0, a1, -, D, ho4⟩; have a1 := a1 (by omega)
          have hG := HG1.out.only ho4 hgb2; have B := (HB4.out.alloc (.cells #[.int .i64 0, .int .i64 1440, .int .i64 1441] 3)).only ho4 hSb
          have R := (HR4.out.alloc (.cells #[.int .i64 0, .int .i64 1440, .int .i64 1441] 3)).only ho4 hRb
          have E := (HE4.out.alloc (.cells #[.int .i64 0, .int .i64 1440, .int .i64 1441] 3)).only hb ho4
          have K := but_only (but_alloc HK4.out HK4.out.size (.cells #[.int .i64 0, .int .i64 1440, .int .i64 1441] 3)) ho4
          obtain ⟨n, hc⟩ : ∃ n, w4.cell? ⟨w3.heap.size, a.toNat, none⟩ = some (.int .i64 n) := by
            rcases (show a = 0 ∨ a = 1 ∨ a = 2 by omega) with rfl | rfl | rfl
            · exact ⟨_, hG.cell 0⟩
            · exact ⟨_, hG.cell 1⟩
            · exact ⟨_, hG.cell 2⟩
          have f5 : w4.cell? ⟨g, k * 13 + 10, none⟩ = some (.int .i64 ev.mins) := E.cell HL.out.symm k 10 (ev, (.slice px ev.days.ex.length kx), (.slice py ev.days.xt.length ky)) _ HT.out (by decide) rfl
          have z5 := E.frz HL.out.symm (k * 13 + 10)
          have HE := Lib.hid (show RowE lo (w4.setCell ⟨g, k * 13 + 10, none⟩ (.int .i64 n)) (.slice (some ⟨g, 0, none⟩) L c1) (ts.set k ({ ev with mins := n }, (.slice px ev.days.ex.length kx), (.slice py ev.days.xt.length ky))) from E.put k 10 (ev, (.slice px ev.days.ex.length kx), (.slice py ev.days.xt.length ky)) ({ ev with mins := n }, (.slice px ev.days.ex.length kx), (.slice py ev.days.xt.length ky)) (.int .i64 n) HT.out (by decide) HL.out.symm rfl ⟨⟨HGG.out.ex, HGG.out.xt, HGG.out.uid, HGG.out.summ, HGG.out.loc⟩, (E.ref _ (List.mem_of_getElem? HT.out)).2.1, (E.ref _ (List.mem_of_getElem? HT.out)).2.2⟩)
          have HB := Lib.hid (B.set_other hSg (k * 13 + 10) (.int .i64 n))
          have HR := Lib.hid (R.set_other hRg (k * 13 + 10) (.int .i64 n))
          have HD := Lib.hid (dice_set (i := k * 13 + 10) (u := .int .i64 n) D hbg)
          have HK := Lib.hid (but_set (i := k * 13 + 10) (u := .int .i64 n) K hg1)
          clear B R E D K HB4 HR4 HE4 HD4 HK4 hG HG1 ho4; go_upto_region 25 with (fail)
          clear f5 z5 hc; obtain ⟨W, hW⟩ : ∃ W, W = w4.setCell ⟨g, k * 13 + 10, none⟩ (.int .i64 n) := ⟨_, rfl⟩
          rw [← hW] at HB HR HE HD HK ⊢
          clear hW; obtain ⟨c0_, c1_, c2_⟩ := And.intro (HB.out.cell 0) (And.intro (HB.out.cell 1) (HB.out.cell 2))
          simp only [List.getElem?_toArray, List.getElem?_cons_zero, List.getElem?_cons_succ] at c0_ c1_ c2_
          obtain ⟨r0, r1, r2⟩ := And.intro (HR.out.cell 0) (And.intro (HR.out.cell 1) (HR.out.cell 2))
          simp only [List.getElem?_toArray, List.getElem?_cons_zero, List.getElem?_cons_succ] at r0 r1 r2
          obtain ⟨z0, z1, z2⟩ := And.intro (HR.out.frozen 0) (And.intro (HR.out.frozen 1) (HR.out.frozen 2))
          go_wp2_with fail
          obtain ⟨W9, hW, B9, fX, fD, fK⟩ := fill3 HR.out (.string n0) (.int .i64 v0) (.slice (some ⟨g, 0, none⟩) L c1)
          rw [← hW]; have E9 := HE.out.map (ty := 26) (by decide) (by decide) fX
          have D9 := fD b (by omega) HD.out
          have K9 := fK b w.heap.size w (by omega) HK.out
          clear hW fX fD fK r0 r1 r2 c0_ c1_ c2_ z0 z1 z2; have r0 : W9.cell? ⟨w.heap.size + 1, 0, none⟩ = some (.string n0) := B9.cell 0
          have r1 : W9.cell? ⟨w.heap.size + 1, 1, none⟩ = some (.int .i64 v0) := B9.cell 1
          have r2 : W9.cell? ⟨w.heap.size + 1, 2, none⟩ = some (.slice (some ⟨g, 0, none⟩) L c1) := B9.cell 2
          refine bodyPost_ret (v := .agg #[.string n0, .int .i64 v0, .slice (some ⟨g, 0, none⟩) L c1]) (by simp [results, Tryz.results23, go_sem, r0, r1, r2]) rfl ?_
          have hq : L = (ts.set k ({ ev with mins := n }, (.slice px ev.days.ex.length kx), (.slice py ev.days.xt.length ky))).length := by rw [List.length_set]; exact HL.out
          exact ⟨n0, v0, (some ⟨g, 0, none⟩), c1, ts.set k ({ ev with mins := n }, (.slice px ev.days.ex.length kx), (.slice py ev.days.xt.length ky)), by rw [← hq], by first | omega | (show 0 ≤ 1000; omega), by rw [← hq]; omega, by rw [← hq]; exact E9, D9, K9⟩
        · go_wp2_with fail
          have hgb2 : w3.heap.size ≠ b := by have := HD4.out.lt; omega
          have HG1 := Lib.hid (Blk.new w3 #[.string ⟨#[]⟩, .string ⟨#[97, 9, 98]⟩, .string ⟨#[97, 127]⟩] 9)
          refine (next_any b 3 _ (dice_alloc HD4.out _) (by omega) (by omega)).mono ?_
          rintro e w4 ⟨a, rfl, a0, a1, -, D, ho4⟩; have a1 := a1 (by omega)
          have hG := HG1.out.only ho4 hgb2; have B := (HB4.out.alloc (.cells #[.string ⟨#[]⟩, .string ⟨#[97, 9, 98]⟩, .string ⟨#[97, 127]⟩] 9)).only ho4 hSb
          have R := (HR4.out.alloc (.cells #[.string ⟨#[]⟩, .string ⟨#[97, 9, 98]⟩, .string ⟨#[97, 127]⟩] 9)).only ho4 hRb
          have E := (HE4.out.alloc (.cells #[.string ⟨#[]⟩, .string ⟨#[97, 9, 98]⟩, .string ⟨#[97, 127]⟩] 9)).only hb ho4
          have K := but_only (but_alloc HK4.out HK4.out.size (.cells #[.string ⟨#[]⟩, .string ⟨#[97, 9, 98]⟩, .string ⟨#[97, 127]⟩] 9)) ho4
          obtain ⟨n, hc, hns⟩ : ∃ n : ByteArray, w4.cell? ⟨w3.heap.size, a.toNat, none⟩ = some (.string n) ∧ n.size ≤ 1000 := by
            rcases (show a = 0 ∨ a = 1 ∨ a = 2 by omega) with rfl | rfl | rfl
            · exact ⟨_, hG.cell 0, by decide⟩
            · exact ⟨_, hG.cell 1, by decide⟩
            · exact ⟨_, hG.cell 2, by decide⟩
          have f5 : w4.cell? ⟨g, k * 13 + 11, none⟩ = some (.string ev.summ) := E.cell HL.out.symm k 11 (ev, (.slice px ev.days.ex.length kx), (.slice py ev.days.xt.length ky)) _ HT.out (by decide) rfl
          have z5 := E.frz HL.out.symm (k * 13 + 11)
          have HE := Lib.hid (show RowE lo (w4.setCell ⟨g, k * 13 + 11, none⟩ (.string n)) (.slice (some ⟨g, 0, none⟩) L c1) (ts.set k ({ ev with summ := n }, (.slice px ev.days.ex.length kx), (.slice py ev.days.xt.length ky))) from E.put k 11 (ev, (.slice px ev.days.ex.length kx), (.slice py ev.days.xt.length ky)) ({ ev with summ := n }, (.slice px ev.days.ex.length kx), (.slice py ev.days.xt.length ky)) (.string n) HT.out (by decide) HL.out.symm rfl ⟨⟨HGG.out.ex, HGG.out.xt, HGG.out.uid, hns, HGG.out.loc⟩, (E.ref _ (List.mem_of_getElem? HT.out)).2.1, (E.ref _ (List.mem_of_getElem? HT.out)).2.2⟩)
          have HB := Lib.hid (B.set_other hSg (k * 13 + 11) (.string n))
          have HR := Lib.hid (R.set_other hRg (k * 13 + 11) (.string n))
          have HD := Lib.hid (dice_set (i := k * 13 + 11) (u := .string n) D hbg)
          have HK := Lib.hid (but_set (i := k * 13 + 11) (u := .string n) K hg1)
          clear B R E D K HB4 HR4 HE4 HD4 HK4 hG HG1 ho4; go_upto_region 25 with (fail)
          clear f5 z5 hc; obtain ⟨W, hW⟩ : ∃ W, W = w4.setCell ⟨g, k * 13 + 11, none⟩ (.string n) := ⟨_, rfl⟩
          rw [← hW] at HB HR HE HD HK ⊢
          clear hW; obtain ⟨c0_, c1_, c2_⟩ := And.intro (HB.out.cell 0) (And.intro (HB.out.cell 1) (HB.out.cell 2))
          simp only [List.getElem?_toArray, List.getElem?_cons_zero, List.getElem?_cons_succ] at c0_ c1_ c2_
          obtain ⟨r0, r1, r2⟩ := And.intro (HR.out.cell 0) (And.intro (HR.out.cell 1) (HR.out.cell 2))
          simp only [List.getElem?_toArray, List.getElem?_cons_zero, List.getElem?_cons_succ] at r0 r1 r2
          obtain ⟨z0, z1, z2⟩ := And.intro (HR.out.frozen 0) (And.intro (HR.out.frozen 1) (HR.out.frozen 2))
          go_wp2_with fail
          obtain ⟨W9, hW, B9, fX, fD, fK⟩ := fill3 HR.out (.string n0) (.int .i64 v0) (.slice (some ⟨g, 0, none⟩) L c1)
          rw [← hW]; have E9 := HE.out.map (ty := 26) (by decide) (by decide) fX
          have D9 := fD b (by omega) HD.out
          have K9 := fK b w.heap.size w (by omega) HK.out
          clear hW fX fD fK r0 r1 r2 c0_ c1_ c2_ z0 z1 z2; have r0 : W9.cell? ⟨w.heap.size + 1, 0, none⟩ = some (.string n0) := B9.cell 0
          have r1 : W9.cell? ⟨w.heap.size + 1, 1, none⟩ = some (.int .i64 v0) := B9.cell 1
          have r2 : W9.cell? ⟨w.heap.size + 1, 2, none⟩ = some (.slice (some ⟨g, 0, none⟩) L c1) := B9.cell 2
          refine bodyPost_ret (v := .agg #[.string n0, .int .i64 v0, .slice (some ⟨g, 0, none⟩) L c1]) (by simp [results, Tryz.results23, go_sem, r0, r1, r2]) rfl ?_
          have hq : L = (ts.set k ({ ev with summ := n }, (.slice px ev.days.ex.length kx), (.slice py ev.days.xt.length ky))).length := by rw [List.length_set]; exact HL.out
          exact ⟨n0, v0, (some ⟨g, 0, none⟩), c1, ts.set k ({ ev with summ := n }, (.slice px ev.days.ex.length kx), (.slice py ev.days.xt.length ky)), by rw [← hq], by first | omega | (show 0 ≤ 1000; omega), by rw [← hq]; omega, by rw [← hq]; exact E9, D9, K9⟩
        · have B := HB4.out; have R := HR4.out
          have E := HE4.out; have D := HD4.out; have K := HK4.out; have f5 : w3.cell? ⟨g, k * 13 + 12, none⟩ = some (.string ev.loc) := E.cell HL.out.symm k 12 (ev, (.slice px ev.days.ex.length kx), (.slice py ev.days.xt.length ky)) _ HT.out (by decide) rfl
          have z5 := E.frz HL.out.symm (k * 13 + 12)
          have HE := Lib.hid (show RowE lo (w3.setCell ⟨g, k * 13 + 12, none⟩ (.string ⟨#[97, 13, 98]⟩)) (.slice (some ⟨g, 0, none⟩) L c1) (ts.set k ({ ev with loc := ⟨#[97, 13, 98]⟩ }, (.slice px ev.days.ex.length kx), (.slice py ev.days.xt.length ky))) from E.put k 12 (ev, (.slice px ev.days.ex.length kx), (.slice py ev.days.xt.length ky)) ({ ev with loc := ⟨#[97, 13, 98]⟩ }, (.slice px ev.days.ex.length kx), (.slice py ev.days.xt.length ky)) (.string ⟨#[97, 13, 98]⟩) HT.out (by decide) HL.out.symm rfl ⟨⟨HGG.out.ex, HGG.out.xt, HGG.out.uid, HGG.out.summ, (show 3 ≤ 1000 by omega)⟩, (E.ref _ (List.mem_of_getElem? HT.out)).2.1, (E.ref _ (List.mem_of_getElem? HT.out)).2.2⟩)
          have HB := Lib.hid (B.set_other hSg (k * 13 + 12) (.string ⟨#[97, 13, 98]⟩))
          have HR := Lib.hid (R.set_other hRg (k * 13 + 12) (.string ⟨#[97, 13, 98]⟩))
          have HD := Lib.hid (dice_set (i := k * 13 + 12) (u := .string ⟨#[97, 13, 98]⟩) D hbg)
          have HK := Lib.hid (but_set (i := k * 13 + 12) (u := .string ⟨#[97, 13, 98]⟩) K hg1)
          clear B R E D K HB4 HR4 HE4 HD4 HK4; go_upto_region 25 with (fail)
          clear f5 z5; obtain ⟨W, hW⟩ : ∃ W, W = w3.setCell ⟨g, k * 13 + 12, none⟩ (.string ⟨#[97, 13, 98]⟩) := ⟨_, rfl⟩
          rw [← hW] at HB HR HE HD HK ⊢
          clear hW; obtain ⟨c0_, c1_, c2_⟩ := And.intro (HB.out.cell 0) (And.intro (HB.out.cell 1) (HB.out.cell 2))
          simp only [List.getElem?_toArray, List.getElem?_cons_zero, List.getElem?_cons_succ] at c0_ c1_ c2_
          obtain ⟨r0, r1, r2⟩ := And.intro (HR.out.cell 0) (And.intro (HR.out.cell 1) (HR.out.cell 2))
          simp only [List.getElem?_toArray, List.getElem?_cons_zero, List.getElem?_cons_succ] at r0 r1 r2
          obtain ⟨z0, z1, z2⟩ := And.intro (HR.out.frozen 0) (And.intro (HR.out.frozen 1) (HR.out.frozen 2))
          go_wp2_with fail
          obtain ⟨W9, hW, B9, fX, fD, fK⟩ := fill3 HR.out (.string n0) (.int .i64 v0) (.slice (some ⟨g, 0, none⟩) L c1)
          rw [← hW]; have E9 := HE.out.map (ty := 26) (by decide) (by decide) fX
          have D9 := fD b (by omega) HD.out
          have K9 := fK b w.heap.size w (by omega) HK.out
          clear hW fX fD fK r0 r1 r2 c0_ c1_ c2_ z0 z1 z2; have r0 : W9.cell? ⟨w.heap.size + 1, 0, none⟩ = some (.string n0) := B9.cell 0
          have r1 : W9.cell? ⟨w.heap.size + 1, 1, none⟩ = some (.int .i64 v0) := B9.cell 1
          have r2 : W9.cell? ⟨w.heap.size + 1, 2, none⟩ = some (.slice (some ⟨g, 0, none⟩) L c1) := B9.cell 2
          refine bodyPost_ret (v := .agg #[.string n0, .int .i64 v0, .slice (some ⟨g, 0, none⟩) L c1]) (by simp [results, Tryz.results23, go_sem, r0, r1, r2]) rfl ?_
          have hq : L = (ts.set k ({ ev with loc := ⟨#[97, 13, 98]⟩ }, (.slice px ev.days.ex.length kx), (.slice py ev.days.xt.length ky))).length := by rw [List.length_set]; exact HL.out
          exact ⟨n0, v0, (some ⟨g, 0, none⟩), c1, ts.set k ({ ev with loc := ⟨#[97, 13, 98]⟩ }, (.slice px ev.days.ex.length kx), (.slice py ev.days.xt.length ky)), by rw [← hq], by first | omega | (show 0 ≤ 1000; omega), by rw [← hq]; omega, by rw [← hq]; exact E9, D9, K9⟩
        · obtain ⟨⟨ew, wa_, wb_⟩, ht0⟩ : ∃ t, ts[0]? = some t := ⟨_, List.getElem?_eq_getElem (by have := HL.out; omega)⟩
          have HT0 := Lib.hid ht0; obtain ⟨-, gX0, gY0⟩ := HE4.out.ref _ (List.mem_of_getElem? ht0)
          obtain ⟨qx, jx, hx0⟩ := gX0.slice
          obtain ⟨qy, jy, hy0⟩ := gY0.slice
          simp only at hx0 hy0
          subst hx0; subst hy0; clear ht0 gX0 gY0; have hL1 : (0 : Int) < L := by omega
          have hbB : b < w3.heap.size := HD4.out.lt
          have HD0 := HD4; clear HD4; go_wp2_with fail
          refine wp_region_tail 7 (by kernel_rfl) (fun listed a x => ∃ (l0 l1 l2 l3 l4 l5 l6 : Bool) (t31 t32 t33 t34 t35 t36 t37 : Value), listed = #[l0, l1, l2, l3, l4, l5, l6, false, false, false] ∧ a = ⟨(.pointer (some ⟨b, 0, none⟩) :: .agg #[.string n0, .int .i64 v0, .slice pu L cu] :: undef :: .pointer (some ⟨w.heap.size, 0, none⟩) :: .pointer (some ⟨w.heap.size + 1, 0, none⟩) :: .int .i64 L :: .pointer (some ⟨g, k * 13, none⟩) :: .pointer (some ⟨w.heap.size, 2, none⟩) :: .slice pu L cu :: .slice (some ⟨g, 0, none⟩) L c1 :: .pointer (some ⟨w.heap.size, 2, none⟩) :: .pointer (some ⟨w.heap.size, 2, none⟩) :: .slice (some ⟨g, 0, none⟩) L c1 :: .int .i64 L :: .int .i64 L :: .bool false :: undef :: undef :: undef :: undef :: undef :: undef :: undef :: t23 :: t24 :: t25 :: t26 :: t27 :: t28 :: .pointer (some ⟨b, 0, none⟩) :: .int .i64 8 :: t31 :: t32 :: t33 :: t34 :: t35 :: t36 :: t37 :: undef :: undef :: .bool false :: .bool false :: undef :: .bool false :: .bool false :: undef :: undef :: undef :: undef :: undef :: undef :: undef :: undef :: .bool false :: .bool false :: undef :: undef :: undef :: undef :: undef :: undef :: undef :: undef :: undef :: undef :: undef :: undef :: undef :: .bool false :: .bool false :: undef :: undef :: undef :: undef :: undef :: undef :: undef :: undef :: undef :: .bool false :: .bool false :: undef :: undef :: undef :: undef :: undef :: undef :: undef :: undef :: .bool false :: .bool false :: undef :: undef :: undef :: undef :: undef :: undef :: undef :: undef :: .bool false :: .bool false :: undef :: undef :: undef :: undef :: undef :: undef :: undef :: undef :: .bool false :: .bool false :: undef :: undef :: undef :: undef :: []).toArray, []⟩ ∧ Hid (l0 = true → t31 = .pointer (some ⟨w.heap.size, 2, none⟩)) ∧ Hid (l1 = true → t32 = .slice (some ⟨g, 0, none⟩) L c1) ∧ Hid (l2 = true → t33 = .pointer (some ⟨w.heap.size, 2, none⟩)) ∧ Hid (l3 = true → t34 = .slice (some ⟨g, 0, none⟩) L c1) ∧ Hid (l4 = true → t35 = .pointer (some ⟨g, 0, none⟩)) ∧ Hid (l5 = true → t36 = .agg #[.string ew.uid, .int .i64 ew.seq, .bool ew.canc, .int .i64 ew.days.first, .int .i64 ew.days.last, .int .i64 ew.days.every, .int .i64 ew.days.wd, .slice qx ew.days.ex.length jx, .slice qy ew.days.xt.length jy, .int .i64 ew.start, .int .i64 ew.mins, .string ew.summ, .string ew.loc]) ∧ Hid (l6 = true → ∃ (g : Nat), t37 = .slice (some ⟨g, 0, none⟩) 1 1 ∧ w3.heap.size ≤ g ∧ Blk g (evCells ew (.slice qx ew.days.ex.length jx) (.slice qy ew.days.xt.length jy)) 82 x) ∧ Hid (Sofar b w3 x)) (by decide) (by kernel_rfl) (by kernel_rfl) ?_ ?_ ?_ ?_
          · exact ⟨false, false, false, false, false, false, false, _, _, _, _, _, _, _, rfl, rfl, Lib.hid (fun h => by cases h), Lib.hid (fun h => by cases h), Lib.hid (fun h => by cases h), Lib.hid (fun h => by cases h), Lib.hid (fun h => by cases h), Lib.hid (fun h => by cases h), Lib.hid (fun h => by cases h), Lib.hid (Sofar.start HD0.out)⟩
          · intro listed a x hj; obtain ⟨l0, hj⟩ := hj
            obtain ⟨l1, hj⟩ := hj; obtain ⟨l2, hj⟩ := hj; obtain ⟨l3, hj⟩ := hj; obtain ⟨l4, hj⟩ := hj; obtain ⟨l5, hj⟩ := hj; obtain ⟨l6, hj⟩ := hj; obtain ⟨t31, hj⟩ := hj; obtain ⟨t32, hj⟩ := hj; obtain ⟨t33, hj⟩ := hj; obtain ⟨t34, hj⟩ := hj; obtain ⟨t35, hj⟩ := hj; obtain ⟨t36, hj⟩ := hj; obtain ⟨t37, hj⟩ := hj; obtain ⟨h1, -⟩ := hj; subst h1; exact ⟨rfl, fun k h1 h2 => by (have h2 : k < 10 := h2); rcases (show k = 7 ∨ k = 8 ∨ k = 9 by omega) with rfl | rfl | rfl <;> rfl⟩
          · intro listed a x i hj hlt hu haf; obtain ⟨l0, hj⟩ := hj
            obtain ⟨l1, hj⟩ := hj; obtain ⟨l2, hj⟩ := hj; obtain ⟨l3, hj⟩ := hj; obtain ⟨l4, hj⟩ := hj; obtain ⟨l5, hj⟩ := hj; obtain ⟨l6, hj⟩ := hj; obtain ⟨t31, hj⟩ := hj; obtain ⟨t32, hj⟩ := hj; obtain ⟨t33, hj⟩ := hj; obtain ⟨t34, hj⟩ := hj; obtain ⟨t35, hj⟩ := hj; obtain ⟨t36, hj⟩ := hj; obtain ⟨t37, hj⟩ := hj; obtain ⟨hl_, hj⟩ := hj; obtain ⟨ha_, hj⟩ := hj; obtain ⟨H0, hj⟩ := hj; obtain ⟨H1, hj⟩ := hj; obtain ⟨H2, hj⟩ := hj; obtain ⟨H3, hj⟩ := hj; obtain ⟨H4, hj⟩ := hj; obtain ⟨H5, hj⟩ := hj; obtain ⟨H6, hj⟩ := hj; have HS := hj; clear hj; subst hl_; subst ha_; rcases (show ∀ i : Nat, i < 7 → (i = 0 ∨ i = 1 ∨ i = 2 ∨ i = 3 ∨ i = 4 ∨ i = 5 ∨ i = 6) by decide) i hlt with rfl | rfl | rfl | rfl | rfl | rfl | rfl
            · have haf := haf _ rfl; clear haf
              have hu : l0 = false := hu
              refine wpOp_of_list_any rfl fun QQ hQ => ?_
              have hQQ := Lib.hid hQ; clear hQ; simp only [List.getElem_toArray, List.getElem_cons_zero]
              go_wp2_with fail
              exact hQQ.out _ _ ⟨true, l1, l2, l3, l4, l5, l6, _, _, _, _, _, _, _, rfl, rfl, Lib.hid (fun _ => rfl), H1, H2, H3, H4, H5, H6, HS⟩
            · have haf := haf _ rfl; have q0 : l0 = true := haf ⟨0, Go.Ground.data⟩ (by simp) rfl
              clear haf; have hu : l1 = false := hu
              have e0 := (H0.out q0)
              subst e0; clear H0; have hc : x.cell? ⟨w.heap.size, 2, none⟩ = some (.slice (some ⟨g, 0, none⟩) L c1) := (HS.out.blk HB4.out hSb).cell 2
              refine wpOp_of_list_any rfl fun QQ hQ => ?_
              have hQQ := Lib.hid hQ; clear hQ; simp only [List.getElem_toArray, List.getElem_cons_zero, List.getElem_cons_succ]
              go_wp2_with fail
              exact hQQ.out _ _ ⟨l0, true, l2, l3, l4, l5, l6, _, _, _, _, _, _, _, rfl, rfl, Lib.hid (fun _ => rfl), Lib.hid (fun _ => rfl), H2, H3, H4, H5, H6, HS⟩
            · have haf := haf _ rfl; clear haf
              have hu : l2 = false := hu
              refine wpOp_of_list_any rfl fun QQ hQ => ?_
              have hQQ := Lib.hid hQ; clear hQ; simp only [List.getElem_toArray, List.getElem_cons_zero, List.getElem_cons_succ]
              go_wp2_with fail
              exact hQQ.out _ _ ⟨l0, l1, true, l3, l4, l5, l6, _, _, _, _, _, _, _, rfl, rfl, H0, H1, Lib.hid (fun _ => rfl), H3, H4, H5, H6, HS⟩
            · have haf := haf _ rfl; have q2 : l2 = true := haf ⟨2, Go.Ground.data⟩ (by simp) rfl
              clear haf; have hu : l3 = false := hu
              have e2 := (H2.out q2)
              subst e2; clear H2; have hc : x.cell? ⟨w.heap.size, 2, none⟩ = some (.slice (some ⟨g, 0, none⟩) L c1) := (HS.out.blk HB4.out hSb).cell 2
              refine wpOp_of_list_any rfl fun QQ hQ => ?_
              have hQQ := Lib.hid hQ; clear hQ; simp only [List.getElem_toArray, List.getElem_cons_zero, List.getElem_cons_succ]
              go_wp2_with fail
              exact hQQ.out _ _ ⟨l0, l1, l2, true, l4, l5, l6, _, _, _, _, _, _, _, rfl, rfl, H0, H1, Lib.hid (fun _ => rfl), Lib.hid (fun _ => rfl), H4, H5, H6, HS⟩
            · have haf := haf _ rfl; have q3 : l3 = true := haf ⟨3, Go.Ground.data⟩ (by simp) rfl
              clear haf; have hu : l4 = false := hu
              have e3 := (H3.out q3)
              subst e3; clear H3; refine wpOp_of_list_any rfl fun QQ hQ => ?_
              have hQQ := Lib.hid hQ; clear hQ; simp only [List.getElem_toArray, List.getElem_cons_zero, List.getElem_cons_succ]
              go_wp2_with fail
              exact hQQ.out _ _ ⟨l0, l1, l2, l3, true, l5, l6, _, _, _, _, _, _, _, rfl, rfl, H0, H1, H2, Lib.hid (fun _ => rfl), Lib.hid (fun _ => rfl), H5, H6, HS⟩
            · have haf := haf _ rfl; have q4 : l4 = true := haf ⟨4, Go.Ground.data⟩ (by simp) rfl
              clear haf; have hu : l5 = false := hu
              have e4 := (H4.out q4)
              subst e4; clear H4; have E0 := HE4.out.but hb HS.out.but
              have y0 : x.cell? ⟨g, 0, none⟩ = some (.string ew.uid) := by have := E0.cell HL.out.symm 0 0 (ew, Value.slice qx ew.days.ex.length jx, Value.slice qy ew.days.xt.length jy) _ HT0.out (by decide) rfl; simpa using this
              have y1 : x.cell? ⟨g, 1, none⟩ = some (.int .i64 ew.seq) := by have := E0.cell HL.out.symm 0 1 (ew, Value.slice qx ew.days.ex.length jx, Value.slice qy ew.days.xt.length jy) _ HT0.out (by decide) rfl; simpa using this
              have y2 : x.cell? ⟨g, 2, none⟩ = some (.bool ew.canc) := by have := E0.cell HL.out.symm 0 2 (ew, Value.slice qx ew.days.ex.length jx, Value.slice qy ew.days.xt.length jy) _ HT0.out (by decide) rfl; simpa using this
              have y3 : x.cell? ⟨g, 3, none⟩ = some (.int .i64 ew.days.first) := by have := E0.cell HL.out.symm 0 3 (ew, Value.slice qx ew.days.ex.length jx, Value.slice qy ew.days.xt.length jy) _ HT0.out (by decide) rfl; simpa using this
              have y4 : x.cell? ⟨g, 4, none⟩ = some (.int .i64 ew.days.last) := by have := E0.cell HL.out.symm 0 4 (ew, Value.slice qx ew.days.ex.length jx, Value.slice qy ew.days.xt.length jy) _ HT0.out (by decide) rfl; simpa using this
              have y5 : x.cell? ⟨g, 5, none⟩ = some (.int .i64 ew.days.every) := by have := E0.cell HL.out.symm 0 5 (ew, Value.slice qx ew.days.ex.length jx, Value.slice qy ew.days.xt.length jy) _ HT0.out (by decide) rfl; simpa using this
              have y6 : x.cell? ⟨g, 6, none⟩ = some (.int .i64 ew.days.wd) := by have := E0.cell HL.out.symm 0 6 (ew, Value.slice qx ew.days.ex.length jx, Value.slice qy ew.days.xt.length jy) _ HT0.out (by decide) rfl; simpa using this
              have y7 : x.cell? ⟨g, 7, none⟩ = some (.slice qx ew.days.ex.length jx) := by have := E0.cell HL.out.symm 0 7 (ew, Value.slice qx ew.days.ex.length jx, Value.slice qy ew.days.xt.length jy) _ HT0.out (by decide) rfl; simpa using this
              have y8 : x.cell? ⟨g, 8, none⟩ = some (.slice qy ew.days.xt.length jy) := by have := E0.cell HL.out.symm 0 8 (ew, Value.slice qx ew.days.ex.length jx, Value.slice qy ew.days.xt.length jy) _ HT0.out (by decide) rfl; simpa using this
              have y9 : x.cell? ⟨g, 9, none⟩ = some (.int .i64 ew.start) := by have := E0.cell HL.out.symm 0 9 (ew, Value.slice qx ew.days.ex.length jx, Value.slice qy ew.days.xt.length jy) _ HT0.out (by decide) rfl; simpa using this
              have y10 : x.cell? ⟨g, 10, none⟩ = some (.int .i64 ew.mins) := by have := E0.cell HL.out.symm 0 10 (ew, Value.slice qx ew.days.ex.length jx, Value.slice qy ew.days.xt.length jy) _ HT0.out (by decide) rfl; simpa using this
              have y11 : x.cell? ⟨g, 11, none⟩ = some (.string ew.summ) := by have := E0.cell HL.out.symm 0 11 (ew, Value.slice qx ew.days.ex.length jx, Value.slice qy ew.days.xt.length jy) _ HT0.out (by decide) rfl; simpa using this
              have y12 : x.cell? ⟨g, 12, none⟩ = some (.string ew.loc) := by have := E0.cell HL.out.symm 0 12 (ew, Value.slice qx ew.days.ex.length jx, Value.slice qy ew.days.xt.length jy) _ HT0.out (by decide) rfl; simpa using this
              refine wpOp_of_list_any rfl fun QQ hQ => ?_
              have hQQ := Lib.hid hQ; clear hQ; simp only [List.getElem_toArray, List.getElem_cons_zero, List.getElem_cons_succ]
              go_wp2_with fail
              exact hQQ.out _ _ ⟨l0, l1, l2, l3, l4, true, l6, _, _, _, _, _, _, _, rfl, rfl, H0, H1, H2, H3, Lib.hid (fun _ => rfl), Lib.hid (fun _ => rfl), H6, HS⟩
            · have haf := haf _ rfl; have q5 : l5 = true := haf ⟨5, Go.Ground.data⟩ (by simp) rfl
              clear haf; have hu : l6 = false := hu
              have e5 := (H5.out q5)
              subst e5; clear H5; refine wpOp_of_list_any rfl fun QQ hQ => ?_
              have hQQ := Lib.hid hQ; clear hQ; simp only [List.getElem_toArray, List.getElem_cons_zero, List.getElem_cons_succ]
              go_wp2_with fail
              exact hQQ.out _ _ ⟨l0, l1, l2, l3, l4, l5, true, _, _, _, _, _, _, _, rfl, rfl, H0, H1, H2, H3, H4, Lib.hid (fun _ => rfl), Lib.hid (fun _ => ⟨_, rfl, HS.out.but.size, Blk.new x _ _⟩), Lib.hid (HS.out.alloc _)⟩
          · intro listed a x hj hall; obtain ⟨l0, hj⟩ := hj
            obtain ⟨l1, hj⟩ := hj; obtain ⟨l2, hj⟩ := hj; obtain ⟨l3, hj⟩ := hj; obtain ⟨l4, hj⟩ := hj; obtain ⟨l5, hj⟩ := hj; obtain ⟨l6, hj⟩ := hj; obtain ⟨t31, hj⟩ := hj; obtain ⟨t32, hj⟩ := hj; obtain ⟨t33, hj⟩ := hj; obtain ⟨t34, hj⟩ := hj; obtain ⟨t35, hj⟩ := hj; obtain ⟨t36, hj⟩ := hj; obtain ⟨t37, hj⟩ := hj; obtain ⟨hl_, hj⟩ := hj; obtain ⟨ha_, hj⟩ := hj; obtain ⟨H0, hj⟩ := hj; obtain ⟨H1, hj⟩ := hj; obtain ⟨H2, hj⟩ := hj; obtain ⟨H3, hj⟩ := hj; obtain ⟨H4, hj⟩ := hj; obtain ⟨H5, hj⟩ := hj; obtain ⟨H6, hj⟩ := hj; have HS := hj; clear hj; subst hl_; subst ha_; have q1 : l1 = true := hall 1 (by omega)
            have q6 : l6 = true := hall 6 (by omega)
            clear hall; have e1 := (H1.out q1)
            subst e1; obtain ⟨g6, e6, c6_0, c6_1⟩ := (H6.out q6)
            subst e6; have B := HS.out.blk HB4.out hSb
            have R := HS.out.blk HR4.out hRb
            have E := HE4.out.but hb HS.out.but
            have K := but_then HK4.out HS.out.but HK4.out.size
            have hsx : lo ≤ x.heap.size := by have := K.size; omega
            have hsx2 := K.size; have hO2 : x.ownsRow w.heap.size 82 13 (.slice (some ⟨g, 0, none⟩) L c1) L (tCells ts) := ⟨by have := E.row.1; rw [← HL.out] at this; exact this, by
              rcases E.row.2 with ⟨hv, _⟩ | ⟨g_, cap_, cur_, hv, q2, q3, q4⟩
              · cases hv
              · cases hv; exact .inr ⟨g, c1, cur_, rfl, hg1, q3, by rw [HL.out]; exact q4⟩⟩
            refine tail_any (fun a x => ∃ (t31 t32 t33 t34 t35 t36 t37 t38 t39 : Value), a = ⟨(.pointer (some ⟨b, 0, none⟩) :: .agg #[.string n0, .int .i64 v0, .slice pu L cu] :: undef :: .pointer (some ⟨w.heap.size, 0, none⟩) :: .pointer (some ⟨w.heap.size + 1, 0, none⟩) :: .int .i64 L :: .pointer (some ⟨g, k * 13, none⟩) :: .pointer (some ⟨w.heap.size, 2, none⟩) :: .slice pu L cu :: .slice (some ⟨g, 0, none⟩) L c1 :: .pointer (some ⟨w.heap.size, 2, none⟩) :: .pointer (some ⟨w.heap.size, 2, none⟩) :: .slice (some ⟨g, 0, none⟩) L c1 :: .int .i64 L :: .int .i64 L :: .bool false :: undef :: undef :: undef :: undef :: undef :: undef :: undef :: t23 :: t24 :: t25 :: t26 :: t27 :: t28 :: .pointer (some ⟨b, 0, none⟩) :: .int .i64 8 :: t31 :: t32 :: t33 :: t34 :: t35 :: t36 :: t37 :: t38 :: t39 :: .bool false :: .bool false :: undef :: .bool false :: .bool false :: undef :: undef :: undef :: undef :: undef :: undef :: undef :: undef :: .bool false :: .bool false :: undef :: undef :: undef :: undef :: undef :: undef :: undef :: undef :: undef :: undef :: undef :: undef :: undef :: .bool false :: .bool false :: undef :: undef :: undef :: undef :: undef :: undef :: undef :: undef :: undef :: .bool false :: .bool false :: undef :: undef :: undef :: undef :: undef :: undef :: undef :: undef :: .bool false :: .bool false :: undef :: undef :: undef :: undef :: undef :: undef :: undef :: undef :: .bool false :: .bool false :: undef :: undef :: undef :: undef :: undef :: undef :: undef :: undef :: .bool false :: .bool false :: undef :: undef :: undef :: undef :: []).toArray, []⟩ ∧ ∃ (p8 : Option Addr) (q8 : Nat), Blk w.heap.size #[.string n0, .int .i64 v0, .slice p8 (L + 1) q8] 26 x ∧ Blk (w.heap.size + 1) #[.string ⟨#[]⟩, .int .i64 0, .slice none 0 0] 26 x ∧ RowE lo x (.slice p8 (L + 1) q8) (ts ++ [(ew, Value.slice qx ew.days.ex.length jx, Value.slice qy ew.days.xt.length jy)]) ∧ Dice b x ∧ But b w.heap.size w x) ?_ fun QQ hQ => ?_
            · intro a x hpost; obtain ⟨t31, hpost⟩ := hpost
              obtain ⟨t32, hpost⟩ := hpost; obtain ⟨t33, hpost⟩ := hpost; obtain ⟨t34, hpost⟩ := hpost; obtain ⟨t35, hpost⟩ := hpost; obtain ⟨t36, hpost⟩ := hpost; obtain ⟨t37, hpost⟩ := hpost; obtain ⟨t38, hpost⟩ := hpost; obtain ⟨t39, hpost⟩ := hpost; obtain ⟨ha_, hpost⟩ := hpost; subst ha_; obtain ⟨p8, q8, p1_, p2_, p3_, p4_, p5_⟩ := hpost; have HB := Lib.hid p1_; have HR := Lib.hid p2_; have HE := Lib.hid p3_; have HD := Lib.hid p4_; have HK := Lib.hid p5_; clear p1_ p2_ p3_ p4_ p5_ HB4 HR4 HE4 HD0 HK4; go_upto_region 25 with (fail)
              obtain ⟨c0_, c1_, c2_⟩ := And.intro (HB.out.cell 0) (And.intro (HB.out.cell 1) (HB.out.cell 2))
              simp only [List.getElem?_toArray, List.getElem?_cons_zero, List.getElem?_cons_succ] at c0_ c1_ c2_
              obtain ⟨r0, r1, r2⟩ := And.intro (HR.out.cell 0) (And.intro (HR.out.cell 1) (HR.out.cell 2))
              simp only [List.getElem?_toArray, List.getElem?_cons_zero, List.getElem?_cons_succ] at r0 r1 r2
              obtain ⟨z0, z1, z2⟩ := And.intro (HR.out.frozen 0) (And.intro (HR.out.frozen 1) (HR.out.frozen 2))
              go_wp2_with fail
              obtain ⟨W9, hW, B9, fX, fD, fK⟩ := fill3 HR.out (.string n0) (.int .i64 v0) (.slice p8 (L + 1) q8)
              rw [← hW]; have E9 := HE.out.map (ty := 26) (by decide) (by decide) fX
              have D9 := fD b (by omega) HD.out
              have K9 := fK b w.heap.size w (by omega) HK.out
              clear hW fX fD fK r0 r1 r2 c0_ c1_ c2_ z0 z1 z2; have r0 : W9.cell? ⟨w.heap.size + 1, 0, none⟩ = some (.string n0) := B9.cell 0
              have r1 : W9.cell? ⟨w.heap.size + 1, 1, none⟩ = some (.int .i64 v0) := B9.cell 1
              have r2 : W9.cell? ⟨w.heap.size + 1, 2, none⟩ = some (.slice p8 (L + 1) q8) := B9.cell 2
              refine bodyPost_ret (v := .agg #[.string n0, .int .i64 v0, .slice p8 (L + 1) q8]) (by simp [results, Tryz.results23, go_sem, r0, r1, r2]) rfl ?_
              have hq : (L + 1) = (ts ++ [(ew, Value.slice qx ew.days.ex.length jx, Value.slice qy ew.days.xt.length jy)]).length := by rw [List.length_append, ← HL.out]; rfl
              exact ⟨n0, v0, p8, q8, ts ++ [(ew, Value.slice qx ew.days.ex.length jx, Value.slice qy ew.days.xt.length jy)], by rw [← hq], by first | omega | (show 0 ≤ 1000; omega), by rw [← hq]; omega, by rw [← hq]; exact E9, D9, K9⟩
            have hQQ := Lib.hid hQ; clear hQ; simp only [List.drop_succ_cons, List.drop_zero]
            go_wp2_with (at_builtin; refine wpList_append_own_at _ rfl (.tmp 32) (.tmp 37) 22 rfl w.heap.size 82 i0 _ 13 160 Tryz.underlying22 hi hz0 hz1 hz2 rfl (by decide) _ _ _ rfl hO2 ⟨g6, 0, none⟩ 1 1 _ rfl rfl (blk_cells c6_1) (evCells_one _ _ _ _ _ _ _) (by unfold maxLen; omega) (by omega) hsx2 ?_)
            intro v' x8 hown8 hgrow _ hat; obtain ⟨p8, q8, hv8⟩ := ownsRow_len hown8
            subst hv8; have S8 := B.grown hO2 hgrow (by decide)
            have R8 := R.grown hO2 hgrow (by decide)
            have D8 := dice_grown HS.out.dice hO2 hblt hsx2 hgrow
            have K8 := but_grown K hO2 hsx2 hgrow; have E8 := E.snoc (E.ref _ (List.mem_of_getElem? HT0.out)) hgrow (ownsRow_mono (by rw [← HL.out]; exact hown8) hlo)
            skip
            have f0 : x8.cell? ⟨w.heap.size, 2, none⟩ = some (.slice (some ⟨g, 0, none⟩) L c1) := S8.cell 2
            have z0 := S8.frozen 2; have HS9 := Lib.hid (show Blk w.heap.size #[.string n0, .int .i64 v0, .slice p8 (L + 1) q8] 26 _ from S8.set 2 (.slice p8 (L + 1) q8))
            have HR9 := Lib.hid (R8.set_other (show w.heap.size + 1 ≠ w.heap.size by omega) 2 (.slice p8 (L + 1) q8))
            have HE9 := Lib.hid (E8.set S8 (by decide) (by decide) 2 (.slice p8 (L + 1) q8))
            have HD9 := Lib.hid (dice_set (i := 2) (u := .slice p8 (L + 1) q8) D8 hblt)
            have HK9 := Lib.hid (but_set (i := 2) (u := .slice p8 (L + 1) q8) K8 (Nat.le_refl _))
            clear hgrow hown8 hat S8 R8 D8 K8 E8 B R E K hO2 c6_0 c6_1; go_wp2_with fail
            exact hQQ.out _ _ ⟨_, _, _, _, _, _, _, _, _, rfl, _, _, HS9.out, HR9.out, HE9.out, HD9.out, HK9.out⟩
      have hQQ := Lib.hid hQ; clear hQ; simp only [List.drop_succ_cons, List.drop_zero]
      go_wp2_with fail
      exact hQQ.out _ _ ⟨_, _, _, _, _, _, _, rfl, n4.toNat, rfl, by omega, HS.out⟩
end Go.Proofs.YtageielcdebjlaaGreatDoor
