/- timetablemore.OddSessions: its contract: a row of sessions in new memory. -/
import Derived.Test.YtageielcdebjlaaGreatDoorStates
namespace Go.Proofs.YtageielcdebjlaaGreatDoor
open Go.RowKit

theorem RowS.sole (lo : Nat) (w : World) (s : Ses) (h : lo ≤ w.heap.size) : RowS lo (w.alloc (.cells (sesCells s) 107)) (.slice (some ⟨w.heap.size, 0, none⟩) 1 1) [s] :=
  ⟨rfl, .inr ⟨w.heap.size, 1, sesCells s, rfl, h, heap_alloc_new w _, Nat.le_refl _, by decide, rfl, by simp [sL_one]; rfl⟩⟩
theorem two_byte_blk {w : World} {g : Nat} {a b : Int} (a0 : 0 ≤ a) (a1 : a < 256) (b0 : 0 ≤ b) (b1 : b < 256) (h : Blk g #[.int .u8 a, .int .u8 b] 5 w) : ∃ s : ByteArray, s.size = 2 ∧ (convert 76 9 (.slice (some ⟨g, 0, none⟩) 2 2)).run Tryz.prog w = .ok (.string s) w := by
  rw [byte_of a a0 a1, byte_of b b0 b1] at h
  exact ⟨⟨#[UInt8.ofNat a.toNat, UInt8.ofNat b.toNat]⟩, rfl, string_of_row (B := 0) (l := [UInt8.ofNat a.toNat, UInt8.ofNat b.toNat]) ⟨rfl, .inr ⟨g, 2, _, rfl, Nat.zero_le _, h, Nat.le_refl _, by decide, rfl, rfl⟩⟩⟩
set_option maxHeartbeats 8000000 in
set_option maxRecDepth 100000 in
theorem oddses133 (b lo : Nat) (xs : List Ses) (p : Option Addr) (c : Nat) (w : World) (hd : Dice b w) (_hb : b < lo) (_hlo : lo ≤ w.heap.size) (hX : RowS lo w (.slice p xs.length c) xs) (hl : xs.length ≤ 12) : Calls Tryz.prog 133 #[.pointer (some ⟨b, 0, none⟩), .slice p xs.length c] w fun e w' => ∃ (v : Value) (ys : List Ses), e = .returned v ∧ RowS w.heap.size w' v ys ∧ ys.length ≤ 200 ∧ Sofar b w w' := by
  obtain ⟨i0, hii, hz0, hz1, hz2⟩ := info_parts infoSes
  have hblt := hd.lt; have HWB := Lib.hid hblt; have HX := Lib.hid hX; have HD := Lib.hid hd; clear hX hd; obtain ⟨n, hn⟩ : ∃ n, n = xs.length := ⟨_, rfl⟩
  rw [← hn] at HX hl ⊢
  have HN := Lib.hid hn; clear hn; go_enter Tryz.func133, Tryz.ntmps133
  go_wp2_with (at_builtin; refine wpList_append_row rfl (.const (.slice none 0 0)) (.tmp 8) 110 rfl w.heap.size 107 i0 _ 6 64 Tryz.underlying110 hii hz0 hz1 hz2 rfl (by decide) _ _ _ rfl (World.ownsRow_nil w _ _ _) lo _ n (sL xs) rfl (by have h := HX.out; unfold RowS at h; rw [← HN.out] at h; exact h) (sL_cells1 _) (by unfold maxLen; omega) (by omega) (Nat.le_refl _) ?_)
  intro v1 x1 hown hgrow hat; have hgrow : w.grownBy x1 none := hgrow
  have HR1 := Lib.hid (show RowS w.heap.size x1 v1 xs from by unfold RowS; rw [← HN.out]; simpa using hown)
  have HS1 := Lib.hid ((Sofar.refl HD.out).grown0 hgrow)
  clear hown hgrow hat; obtain ⟨p1, c1, hv⟩ := HR1.out.slice
  rw [← HN.out] at hv
  subst hv; by_cases hn0 : n = 0
  · subst hn0; go_upto_region 3 with (fail)
    have hbB : b < x1.heap.size := HS1.out.dice.lt
    have hs1 := HS1.out.but.size; refine wp_region_tail 8 (by kernel_rfl) (fun listed a x => ∃ (l0 l1 l2 l3 l4 l5 l6 l7 : Bool) (t13 t14 t15 t16 t17 t18 t19 t20 : Value), listed = #[l0, l1, l2, l3, l4, l5, l6, l7, false, false, false] ∧ a = ⟨(.pointer (some ⟨b, 0, none⟩) :: .slice p 0 c :: undef :: undef :: .slice none 0 0 :: .slice p1 0 c1 :: undef :: undef :: .slice p 0 c :: .slice p1 0 c1 :: .slice p1 0 c1 :: .int .i64 0 :: .bool true :: t13 :: t14 :: t15 :: t16 :: t17 :: t18 :: t19 :: t20 :: undef :: undef :: undef :: undef :: undef :: undef :: undef :: undef :: undef :: undef :: undef :: undef :: undef :: undef :: undef :: undef :: undef :: undef :: undef :: undef :: undef :: undef :: undef :: undef :: undef :: undef :: undef :: undef :: undef :: undef :: undef :: undef :: undef :: undef :: undef :: undef :: undef :: undef :: undef :: undef :: undef :: undef :: undef :: undef :: undef :: undef :: undef :: undef :: undef :: undef :: undef :: undef :: undef :: undef :: undef :: undef :: undef :: undef :: undef :: undef :: undef :: undef :: undef :: undef :: undef :: undef :: undef :: undef :: undef :: undef :: undef :: undef :: undef :: undef :: undef :: undef :: undef :: undef :: undef :: undef :: undef :: undef :: undef :: []).toArray, []⟩ ∧ Hid (l0 = true → l3 = false → ∃ (g : Nat), t13 = .slice (some ⟨g, 0, none⟩) 2 2 ∧ x1.heap.size ≤ g ∧ Blk g #[.string ⟨#[]⟩, .string ⟨#[99, 49]⟩] 9 x) ∧ Hid (l1 = true → t14 = .pointer (some ⟨b, 0, none⟩)) ∧ Hid (l2 = true → ∃ (n : Int), t15 = .int .i64 n ∧ 0 ≤ n ∧ n ≤ 1) ∧ Hid (l3 = true → l4 = false → ∃ (g : Nat) (k : Nat), t16 = .pointer (some ⟨g, k, none⟩) ∧ k < 2 ∧ x1.heap.size ≤ g ∧ Blk g #[.string ⟨#[]⟩, .string ⟨#[99, 49]⟩] 9 x) ∧ Hid (l4 = true → ∃ (s : ByteArray), t17 = .string s ∧ s.size ≤ 1000) ∧ Hid (l5 = true → t18 = .pointer (some ⟨b, 0, none⟩)) ∧ Hid (l6 = true → ∃ (n : Int), t19 = .int .i64 n ∧ 0 ≤ n ∧ n ≤ 2) ∧ Hid (l7 = true → ∃ (n : Int), t20 = .agg #[.int .i64 n, .int .i64 0, .int .i64 0, .int .i64 1]) ∧ Hid (Sofar b x1 x)) (by decide) (by kernel_rfl) (by kernel_rfl) ?_ ?_ ?_ ?_
    · exact ⟨false, false, false, false, false, false, false, false, _, _, _, _, _, _, _, _, rfl, rfl, Lib.hid (fun h => by cases h), Lib.hid (fun h => by cases h), Lib.hid (fun h => by cases h), Lib.hid (fun h => by cases h), Lib.hid (fun h => by cases h), Lib.hid (fun h => by cases h), Lib.hid (fun h => by cases h), Lib.hid (fun h => by cases h), Lib.hid (Sofar.start HS1.out.dice)⟩
    · intro listed a x hj; obtain ⟨l0, hj⟩ := hj
      obtain ⟨l1, hj⟩ := hj; obtain ⟨l2, hj⟩ := hj; obtain ⟨l3, hj⟩ := hj; obtain ⟨l4, hj⟩ := hj; obtain ⟨l5, hj⟩ := hj; obtain ⟨l6, hj⟩ := hj; obtain ⟨l7, hj⟩ := hj; obtain ⟨t13, hj⟩ := hj; obtain ⟨t14, hj⟩ := hj; obtain ⟨t15, hj⟩ := hj; obtain ⟨t16, hj⟩ := hj; obtain ⟨t17, hj⟩ := hj; obtain ⟨t18, hj⟩ := hj; obtain ⟨t19, hj⟩ := hj; obtain ⟨t20, hj⟩ := hj; obtain ⟨h1, -⟩ := hj; subst h1; exact ⟨rfl, fun k h1 h2 => by (have h2 : k < 11 := h2); rcases (show k = 8 ∨ k = 9 ∨ k = 10 by omega) with rfl | rfl | rfl <;> rfl⟩
    · intro listed a x i hj hlt hu haf; obtain ⟨l0, hj⟩ := hj
      obtain ⟨l1, hj⟩ := hj; obtain ⟨l2, hj⟩ := hj; obtain ⟨l3, hj⟩ := hj; obtain ⟨l4, hj⟩ := hj; obtain ⟨l5, hj⟩ := hj; obtain ⟨l6, hj⟩ := hj; obtain ⟨l7, hj⟩ := hj; obtain ⟨t13, hj⟩ := hj; obtain ⟨t14, hj⟩ := hj; obtain ⟨t15, hj⟩ := hj; obtain ⟨t16, hj⟩ := hj; obtain ⟨t17, hj⟩ := hj; obtain ⟨t18, hj⟩ := hj; obtain ⟨t19, hj⟩ := hj; obtain ⟨t20, hj⟩ := hj; obtain ⟨hl_, hj⟩ := hj; obtain ⟨ha_, hj⟩ := hj; obtain ⟨H0, hj⟩ := hj; obtain ⟨H1, hj⟩ := hj; obtain ⟨H2, hj⟩ := hj; obtain ⟨H3, hj⟩ := hj; obtain ⟨H4, hj⟩ := hj; obtain ⟨H5, hj⟩ := hj; obtain ⟨H6, hj⟩ := hj; obtain ⟨H7, hj⟩ := hj; have HS := hj; clear hj; subst hl_; subst ha_; rcases (show ∀ i : Nat, i < 8 → (i = 0 ∨ i = 1 ∨ i = 2 ∨ i = 3 ∨ i = 4 ∨ i = 5 ∨ i = 6 ∨ i = 7) by decide) i hlt with rfl | rfl | rfl | rfl | rfl | rfl | rfl | rfl
      · have haf := haf _ rfl; clear haf
        have hu : l0 = false := hu
        refine wpOp_of_list_any rfl fun QQ hQ => ?_
        have hQQ := Lib.hid hQ; clear hQ; simp only [List.getElem_toArray, List.getElem_cons_zero]
        go_wp2_with fail
        exact hQQ.out _ _ ⟨true, l1, l2, l3, l4, l5, l6, l7, _, _, _, _, _, _, _, _, rfl, rfl, Lib.hid (fun _ _ => ⟨_, rfl, HS.out.but.size, Blk.new x _ _⟩), H1, H2, Lib.hid (fun h h2 => (by obtain ⟨g, k, e, c0, c1, c2⟩ := H3.out h h2; exact ⟨g, k, e, c0, c1, ((Kept.alloc _ x _) _ _ _ c1 c2)⟩)), H4, H5, H6, H7, Lib.hid (HS.out.alloc _)⟩
      · have haf := haf _ rfl; clear haf
        have hu : l1 = false := hu
        refine wpOp_of_list_any rfl fun QQ hQ => ?_
        have hQQ := Lib.hid hQ; clear hQ; simp only [List.getElem_toArray, List.getElem_cons_zero, List.getElem_cons_succ]
        go_wp2_with fail
        exact hQQ.out _ _ ⟨l0, true, l2, l3, l4, l5, l6, l7, _, _, _, _, _, _, _, _, rfl, rfl, H0, Lib.hid (fun _ => rfl), H2, H3, H4, H5, H6, H7, HS⟩
      · have haf := haf _ rfl; have q1 : l1 = true := haf ⟨1, Go.Ground.data⟩ (by simp) rfl
        clear haf; have hu : l2 = false := hu
        have e1 := (H1.out q1)
        subst e1; clear H1; refine wpOp_of_list_any rfl fun QQ hQ => ?_
        have hQQ := Lib.hid hQ; clear hQ; simp only [List.getElem_toArray, List.getElem_cons_zero, List.getElem_cons_succ]
        go_wp2_with fail
        refine (next_any b 2 _ HS.out.dice (by omega) (by omega)).mono ?_
        rintro e x1 ⟨v, rfl, h0, h1, -, hd1, ho1⟩; have h1 := h1 (by omega)
        have hk := Kept.only ho1 hbB; have HS1 := Lib.hid (HS.out.only hd1 ho1)
        clear ho1 hd1; go_wp2_with fail
        exact hQQ.out _ _ ⟨l0, l1, true, l3, l4, l5, l6, l7, _, _, _, _, _, _, _, _, rfl, rfl, Lib.hid (fun h h2 => (by obtain ⟨g, e, c0, c1⟩ := H0.out h h2; exact ⟨g, e, c0, (hk _ _ _ c0 c1)⟩)), Lib.hid (fun _ => rfl), Lib.hid (fun _ => ⟨_, rfl, by omega, by omega⟩), Lib.hid (fun h h2 => (by obtain ⟨g, k, e, c0, c1, c2⟩ := H3.out h h2; exact ⟨g, k, e, c0, c1, (hk _ _ _ c1 c2)⟩)), H4, H5, H6, H7, HS1⟩
      · have haf := haf _ rfl; have q0 : l0 = true := haf ⟨0, Go.Ground.data⟩ (by simp) rfl
        have q2 : l2 = true := haf ⟨2, Go.Ground.data⟩ (by simp) rfl
        clear haf; have hu : l3 = false := hu
        obtain ⟨g0, e0, c0_0, c0_1⟩ := (H0.out q0 hu)
        subst e0; clear H0; obtain ⟨n2, e2, c2_0, c2_1⟩ := (H2.out q2)
        subst e2; clear H2; refine wpOp_of_list_any rfl fun QQ hQ => ?_
        have hQQ := Lib.hid hQ; clear hQ; simp only [List.getElem_toArray, List.getElem_cons_zero, List.getElem_cons_succ]
        go_wp2_with fail
        exact hQQ.out _ _ ⟨l0, l1, l2, true, l4, l5, l6, l7, _, _, _, _, _, _, _, _, rfl, rfl, Lib.hid (fun _ h => by cases h), H1, Lib.hid (fun _ => ⟨n2, rfl, c2_0, c2_1⟩), Lib.hid (fun _ _ => ⟨_, _, rfl, by omega, by omega, by assumption⟩), H4, H5, H6, H7, HS⟩
      · have haf := haf _ rfl; have q3 : l3 = true := haf ⟨3, Go.Ground.data⟩ (by simp) rfl
        clear haf; have hu : l4 = false := hu
        obtain ⟨g3, k3, e3, c3_0, c3_1, c3_2⟩ := (H3.out q3 hu)
        subst e3; clear H3; obtain ⟨v, hv, hP⟩ : ∃ v, x.cell? ⟨g3, k3, none⟩ = some v ∧ (∃ (s : ByteArray), v = .string s ∧ s.size ≤ 1000) := by
          rcases (show k3 = 0 ∨ k3 = 1 by omega) with rfl | rfl
          · exact ⟨_, c3_2.cell 0, _, rfl, by first | omega | decide⟩
          · exact ⟨_, c3_2.cell 1, _, rfl, by first | omega | decide⟩
        obtain ⟨y0, rfl, d0⟩ := hP; refine wpOp_of_list_any rfl fun QQ hQ => ?_
        have hQQ := Lib.hid hQ; clear hQ; simp only [List.getElem_toArray, List.getElem_cons_zero, List.getElem_cons_succ]
        go_wp2_with fail
        exact hQQ.out _ _ ⟨l0, l1, l2, l3, true, l5, l6, l7, _, _, _, _, _, _, _, _, rfl, rfl, H0, H1, H2, Lib.hid (fun _ h => by cases h), Lib.hid (fun _ => ⟨_, rfl, by omega⟩), H5, H6, H7, HS⟩
      · have haf := haf _ rfl; clear haf
        have hu : l5 = false := hu
        refine wpOp_of_list_any rfl fun QQ hQ => ?_
        have hQQ := Lib.hid hQ; clear hQ; simp only [List.getElem_toArray, List.getElem_cons_zero, List.getElem_cons_succ]
        go_wp2_with fail
        exact hQQ.out _ _ ⟨l0, l1, l2, l3, l4, true, l6, l7, _, _, _, _, _, _, _, _, rfl, rfl, H0, H1, H2, H3, H4, Lib.hid (fun _ => rfl), H6, H7, HS⟩
      · have haf := haf _ rfl; have q5 : l5 = true := haf ⟨5, Go.Ground.data⟩ (by simp) rfl
        clear haf; have hu : l6 = false := hu
        have e5 := (H5.out q5)
        subst e5; clear H5; refine wpOp_of_list_any rfl fun QQ hQ => ?_
        have hQQ := Lib.hid hQ; clear hQ; simp only [List.getElem_toArray, List.getElem_cons_zero, List.getElem_cons_succ]
        go_wp2_with fail
        refine (next_any b 3 _ HS.out.dice (by omega) (by omega)).mono ?_
        rintro e x1 ⟨v, rfl, h0, h1, -, hd1, ho1⟩; have h1 := h1 (by omega)
        have hk := Kept.only ho1 hbB; have HS1 := Lib.hid (HS.out.only hd1 ho1)
        clear ho1 hd1; go_wp2_with fail
        exact hQQ.out _ _ ⟨l0, l1, l2, l3, l4, l5, true, l7, _, _, _, _, _, _, _, _, rfl, rfl, Lib.hid (fun h h2 => (by obtain ⟨g, e, c0, c1⟩ := H0.out h h2; exact ⟨g, e, c0, (hk _ _ _ c0 c1)⟩)), H1, H2, Lib.hid (fun h h2 => (by obtain ⟨g, k, e, c0, c1, c2⟩ := H3.out h h2; exact ⟨g, k, e, c0, c1, (hk _ _ _ c1 c2)⟩)), H4, Lib.hid (fun _ => rfl), Lib.hid (fun _ => ⟨_, rfl, by omega, by omega⟩), H7, HS1⟩
      · have haf := haf _ rfl; have q6 : l6 = true := haf ⟨6, Go.Ground.data⟩ (by simp) rfl
        clear haf; have hu : l7 = false := hu
        obtain ⟨n6, e6, c6_0, c6_1⟩ := (H6.out q6)
        subst e6; clear H6; refine wpOp_of_list_any rfl fun QQ hQ => ?_
        have hQQ := Lib.hid hQ; clear hQ; simp only [List.getElem_toArray, List.getElem_cons_zero, List.getElem_cons_succ]
        go_wp2_with fail
        exact hQQ.out _ _ ⟨l0, l1, l2, l3, l4, l5, l6, true, _, _, _, _, _, _, _, _, rfl, rfl, H0, H1, H2, H3, H4, H5, Lib.hid (fun _ => ⟨n6, rfl, c6_0, c6_1⟩), Lib.hid (fun _ => ⟨_, rfl⟩), HS⟩
    · intro listed a x hj hall; obtain ⟨l0, hj⟩ := hj
      obtain ⟨l1, hj⟩ := hj; obtain ⟨l2, hj⟩ := hj; obtain ⟨l3, hj⟩ := hj; obtain ⟨l4, hj⟩ := hj; obtain ⟨l5, hj⟩ := hj; obtain ⟨l6, hj⟩ := hj; obtain ⟨l7, hj⟩ := hj; obtain ⟨t13, hj⟩ := hj; obtain ⟨t14, hj⟩ := hj; obtain ⟨t15, hj⟩ := hj; obtain ⟨t16, hj⟩ := hj; obtain ⟨t17, hj⟩ := hj; obtain ⟨t18, hj⟩ := hj; obtain ⟨t19, hj⟩ := hj; obtain ⟨t20, hj⟩ := hj; obtain ⟨hl_, hj⟩ := hj; obtain ⟨ha_, hj⟩ := hj; obtain ⟨H0, hj⟩ := hj; obtain ⟨H1, hj⟩ := hj; obtain ⟨H2, hj⟩ := hj; obtain ⟨H3, hj⟩ := hj; obtain ⟨H4, hj⟩ := hj; obtain ⟨H5, hj⟩ := hj; obtain ⟨H6, hj⟩ := hj; obtain ⟨H7, hj⟩ := hj; have HS := hj; clear hj; subst hl_; subst ha_; have q4 : l4 = true := hall 4 (by omega)
      have q7 : l7 = true := hall 7 (by omega)
      clear hall; obtain ⟨s4, e4, c4_0⟩ := (H4.out q4)
      subst e4; obtain ⟨n7, e7⟩ := (H7.out q7)
      subst e7; have hsx := HS.out.but.size; refine tail_any (fun a x => ∃ (t4 t13 t14 t15 t16 t17 t18 t19 t20 t21 t22 : Value), a = ⟨(.pointer (some ⟨b, 0, none⟩) :: .slice p 0 c :: undef :: undef :: t4 :: .slice p1 0 c1 :: undef :: undef :: .slice p 0 c :: .slice p1 0 c1 :: .slice p1 0 c1 :: .int .i64 0 :: .bool true :: t13 :: t14 :: t15 :: t16 :: t17 :: t18 :: t19 :: t20 :: t21 :: t22 :: undef :: undef :: undef :: undef :: undef :: undef :: undef :: undef :: undef :: undef :: undef :: undef :: undef :: undef :: undef :: undef :: undef :: undef :: undef :: undef :: undef :: undef :: undef :: undef :: undef :: undef :: undef :: undef :: undef :: undef :: undef :: undef :: undef :: undef :: undef :: undef :: undef :: undef :: undef :: undef :: undef :: undef :: undef :: undef :: undef :: undef :: undef :: undef :: undef :: undef :: undef :: undef :: undef :: undef :: undef :: undef :: undef :: undef :: undef :: undef :: undef :: undef :: undef :: undef :: undef :: undef :: undef :: undef :: undef :: undef :: undef :: undef :: undef :: undef :: undef :: undef :: undef :: undef :: undef :: undef :: undef :: []).toArray, []⟩ ∧ ∃ s : Ses, ∃ v : Value, t4 = v ∧ RowS w.heap.size x v [s] ∧ Sofar b x1 x) ?_ fun QQ hQ => ?_
      · intro a x hpost; obtain ⟨t4, hpost⟩ := hpost
        obtain ⟨t13, hpost⟩ := hpost; obtain ⟨t14, hpost⟩ := hpost; obtain ⟨t15, hpost⟩ := hpost; obtain ⟨t16, hpost⟩ := hpost; obtain ⟨t17, hpost⟩ := hpost; obtain ⟨t18, hpost⟩ := hpost; obtain ⟨t19, hpost⟩ := hpost; obtain ⟨t20, hpost⟩ := hpost; obtain ⟨t21, hpost⟩ := hpost; obtain ⟨t22, hpost⟩ := hpost; obtain ⟨ha_, hpost⟩ := hpost; subst ha_; obtain ⟨s, v, rfl, hr, hs⟩ := hpost; have HR2 := Lib.hid hr; have HS2 := Lib.hid (HS1.out.trans hs)
        clear hr hs; go_wp2_with fail
        go_ret; first | exact ⟨_, _, rfl, HR2.out, by show 1 ≤ 200; decide, HS2.out⟩ | exact ⟨_, rfl, _, HR2.out, by show 1 ≤ 200; decide, HS2.out⟩
      have hQQ := Lib.hid hQ; clear hQ; simp only [List.drop_succ_cons, List.drop_zero]
      go_wp2_with fail
      exact hQQ.out _ _ ⟨_, _, _, _, _, _, _, _, _, _, _, rfl, ⟨s4, ⟨n7, 0, 0, 1⟩, ⟨#[]⟩⟩, _, rfl, RowS.sole w.heap.size x ⟨s4, ⟨n7, 0, 0, 1⟩, ⟨#[]⟩⟩ (by omega), HS.out.alloc _⟩
  have hnp : 0 < n := by omega
  have hneb : ((n : Int) == 0) = false := beq_eq_false_iff_ne.2 (by omega)
  obtain ⟨G, cg, hg, hG⟩ := HR1.out.form (by have := HN.out; omega)
  have hp1 : p1 = some ⟨G, 0, none⟩ := by injection hg
  subst hp1; clear hg hn0; go_wp2_with fail
  refine (next_any b n _ HS1.out.dice (by omega) (by omega)).mono ?_
  rintro e x2 ⟨a, rfl, a0, a1, -, hd, ho⟩; have a1 := a1 (by omega)
  have HS2 := Lib.hid (HS1.out.only hd ho)
  have HR2 := Lib.hid (show RowS w.heap.size x2 (.slice (some ⟨G, 0, none⟩) n c1) xs from row_but HR1.out HWB.out ho.but)
  clear hd ho HS1 HR1; obtain ⟨k, rfl⟩ : ∃ k : Nat, a = k := ⟨a.toNat, by omega⟩
  have hkn : k < n := by omega
  have hkt : ((k : Int)).toNat = k := Int.toNat_natCast k
  go_wp2_with fail
  refine (next_any b 6 _ HS2.out.dice (by omega) (by omega)).mono ?_
  rintro e x3 ⟨q, rfl, q0, q1, -, hd, ho⟩; have q1 := q1 (by omega)
  have HS3 := Lib.hid (HS2.out.only hd ho)
  have HR3 := Lib.hid (show RowS w.heap.size x3 (.slice (some ⟨G, 0, none⟩) n c1) xs from row_but HR2.out HWB.out ho.but)
  clear hd ho HS2 HR2; obtain ⟨t, ht⟩ : ∃ t, xs[k]? = some t := ⟨_, List.getElem?_eq_getElem (by have := HN.out; omega)⟩
  have HT := Lib.hid ht; clear ht; have hsz3 := HS3.out.but.size; have hbG : b < G := by omega
  rcases (show q = 0 ∨ q = 1 ∨ q = 2 ∨ q = 3 ∨ q = 4 ∨ q = 5 by omega) with rfl | rfl | rfl | rfl | rfl | rfl
  · obtain ⟨I, hI⟩ : ∃ g, g = x3.heap.size := ⟨_, rfl⟩
    obtain ⟨x4, hx4⟩ : ∃ X, X = x3.alloc (.cells #[.string ⟨#[]⟩, .string ⟨#[99, 49]⟩, .string ⟨#[122, 122]⟩] 9) := ⟨_, rfl⟩
    have HS4 := Lib.hid (show Sofar b w x4 from by rw [hx4]; exact HS3.out.alloc _)
    have HR4 := Lib.hid (show RowS w.heap.size x4 (.slice (some ⟨G, 0, none⟩) n c1) xs from by rw [hx4]; exact World.ownsRow.alloc HR3.out _)
    have HI4 := Lib.hid (show Blk I #[.string ⟨#[]⟩, .string ⟨#[99, 49]⟩, .string ⟨#[122, 122]⟩] 9 x4 from by rw [hx4, hI]; exact Blk.new x3 _ _)
    have nIb : I ≠ b := by have := HS3.out.dice.lt; omega
    go_wp2_with fail
    rw [← hx4, ← hI]; clear hx4 hI HS3 HR3; refine (next_any b 3 _ HS4.out.dice (by omega) (by omega)).mono ?_
    rintro e x5 ⟨z, rfl, z0, z1, -, hd, ho⟩; have z1 := z1 (by omega)
    have HS5 := Lib.hid (HS4.out.only hd ho)
    have HR5 := Lib.hid (show RowS w.heap.size x5 (.slice (some ⟨G, 0, none⟩) n c1) xs from row_but HR4.out HWB.out ho.but)
    have HI5 := Lib.hid (HI4.out.only ho nIb)
    clear hd ho HS4 HR4 HI4; obtain ⟨v, hv⟩ : ∃ v : ByteArray, x5.cell? ⟨I, z.toNat, none⟩ = some (.string v) := by rcases (show z = 0 ∨ z = 1 ∨ z = 2 by omega) with rfl | rfl | rfl <;> exact ⟨_, HI5.out.cell _⟩
    have hc : x5.cell? ⟨G, k * 6, none⟩ = some (.string t.cls) := HR5.out.cell k 0 t _ HT.out (by decide) rfl
    have hf : x5.frozen? ⟨G, k * 6, none⟩ = false := HR5.out.frz _
    go_upto_region 20 with (fail)
    clear hv hc hf; have HR6 := Lib.hid (show RowS w.heap.size (x5.setCell ⟨G, k * 6, none⟩ (.string v)) (.slice (some ⟨G, 0, none⟩) n c1) (xs.set k { t with cls := v }) from HR5.out.put k 0 t { t with cls := v } _ HT.out (by decide) rfl)
    have HS6 := Lib.hid (HS5.out.set hG hbG (k * 6) (.string v))
    go_wp2_with fail
    go_ret; first | exact ⟨_, _, rfl, HR6.out, by have := HN.out; rw [List.length_set]; omega, HS6.out⟩ | exact ⟨_, rfl, _, HR6.out, by have := HN.out; rw [List.length_set]; omega, HS6.out⟩
  · have hc1 : x3.cell? ⟨G, k * 6 + 1, none⟩ = some (.int .i64 t.tim.weeks) := HR3.out.cell k 1 t _ HT.out (by decide) rfl
    have hc2 : x3.cell? ⟨G, k * 6 + 2, none⟩ = some (.int .i64 t.tim.day) := HR3.out.cell k 2 t _ HT.out (by decide) rfl
    have hc3 : x3.cell? ⟨G, k * 6 + 3, none⟩ = some (.int .i64 t.tim.start) := HR3.out.cell k 3 t _ HT.out (by decide) rfl
    have hc4 : x3.cell? ⟨G, k * 6 + 4, none⟩ = some (.int .i64 t.tim.len) := HR3.out.cell k 4 t _ HT.out (by decide) rfl
    go_wp2_with fail
    refine (show Calls Tryz.prog 202 #[.pointer (some ⟨b, 0, none⟩), .agg #[.int .i64 t.tim.weeks, .int .i64 t.tim.day, .int .i64 t.tim.start, .int .i64 t.tim.len]] x3 _ from oddtime202 b t.tim x3 HS3.out.dice).mono ?_
    rintro e x4 ⟨y, rfl, hs⟩; unfold timVal
    have HS4 := Lib.hid (HS3.out.trans hs)
    have HR4 := Lib.hid (show RowS w.heap.size x4 (.slice (some ⟨G, 0, none⟩) n c1) xs from row_but HR3.out HWB.out hs.but)
    clear hs hc1 hc2 hc3 hc4 HS3 HR3; have hc1 : x4.cell? ⟨G, k * 6 + 1, none⟩ = some (.int .i64 t.tim.weeks) := HR4.out.cell k 1 t _ HT.out (by decide) rfl
    have hc2 : x4.cell? ⟨G, k * 6 + 2, none⟩ = some (.int .i64 t.tim.day) := HR4.out.cell k 2 t _ HT.out (by decide) rfl
    have hc3 : x4.cell? ⟨G, k * 6 + 3, none⟩ = some (.int .i64 t.tim.start) := HR4.out.cell k 3 t _ HT.out (by decide) rfl
    have hc4 : x4.cell? ⟨G, k * 6 + 4, none⟩ = some (.int .i64 t.tim.len) := HR4.out.cell k 4 t _ HT.out (by decide) rfl
    have hf1 : x4.frozen? ⟨G, k * 6 + 1, none⟩ = false := HR4.out.frz _
    have hf2 : x4.frozen? ⟨G, k * 6 + 2, none⟩ = false := HR4.out.frz _
    have hf3 : x4.frozen? ⟨G, k * 6 + 3, none⟩ = false := HR4.out.frz _
    have hf4 : x4.frozen? ⟨G, k * 6 + 4, none⟩ = false := HR4.out.frz _
    go_upto_region 20 with (fail)
    clear hc1 hc2 hc3 hc4 hf1 hf2 hf3 hf4; have HRs0 := Lib.hid (show RowS w.heap.size (x4.setCell ⟨G, k * 6 + 1, none⟩ (.int .i64 y.weeks)) (.slice (some ⟨G, 0, none⟩) n c1) (xs.set k ⟨t.cls, ⟨y.weeks, t.tim.day, t.tim.start, t.tim.len⟩, t.room⟩) from HR4.out.put k 1 t ⟨t.cls, ⟨y.weeks, t.tim.day, t.tim.start, t.tim.len⟩, t.room⟩ _ (HT.out) (by decide) rfl)
    have HSs0 := Lib.hid (HS4.out.set hG hbG (k * 6 + 1) (.int .i64 y.weeks))
    have HRs1 := Lib.hid (show RowS w.heap.size ((x4.setCell ⟨G, k * 6 + 1, none⟩ (.int .i64 y.weeks)).setCell ⟨G, k * 6 + 2, none⟩ (.int .i64 y.day)) (.slice (some ⟨G, 0, none⟩) n c1) ((xs.set k ⟨t.cls, ⟨y.weeks, t.tim.day, t.tim.start, t.tim.len⟩, t.room⟩).set k ⟨t.cls, ⟨y.weeks, y.day, t.tim.start, t.tim.len⟩, t.room⟩) from HRs0.out.put k 2 ⟨t.cls, ⟨y.weeks, t.tim.day, t.tim.start, t.tim.len⟩, t.room⟩ ⟨t.cls, ⟨y.weeks, y.day, t.tim.start, t.tim.len⟩, t.room⟩ _ (by rw [List.getElem?_set_self (by first | (have := HN.out; omega) | (simp only [List.length_set]; have := HN.out; omega))]) (by decide) rfl)
    have HSs1 := Lib.hid (HSs0.out.set hG hbG (k * 6 + 2) (.int .i64 y.day))
    have HRs2 := Lib.hid (show RowS w.heap.size (((x4.setCell ⟨G, k * 6 + 1, none⟩ (.int .i64 y.weeks)).setCell ⟨G, k * 6 + 2, none⟩ (.int .i64 y.day)).setCell ⟨G, k * 6 + 3, none⟩ (.int .i64 y.start)) (.slice (some ⟨G, 0, none⟩) n c1) (((xs.set k ⟨t.cls, ⟨y.weeks, t.tim.day, t.tim.start, t.tim.len⟩, t.room⟩).set k ⟨t.cls, ⟨y.weeks, y.day, t.tim.start, t.tim.len⟩, t.room⟩).set k ⟨t.cls, ⟨y.weeks, y.day, y.start, t.tim.len⟩, t.room⟩) from HRs1.out.put k 3 ⟨t.cls, ⟨y.weeks, y.day, t.tim.start, t.tim.len⟩, t.room⟩ ⟨t.cls, ⟨y.weeks, y.day, y.start, t.tim.len⟩, t.room⟩ _ (by rw [List.getElem?_set_self (by first | (have := HN.out; omega) | (simp only [List.length_set]; have := HN.out; omega))]) (by decide) rfl)
    have HSs2 := Lib.hid (HSs1.out.set hG hbG (k * 6 + 3) (.int .i64 y.start))
    have HRs3 := Lib.hid (show RowS w.heap.size ((((x4.setCell ⟨G, k * 6 + 1, none⟩ (.int .i64 y.weeks)).setCell ⟨G, k * 6 + 2, none⟩ (.int .i64 y.day)).setCell ⟨G, k * 6 + 3, none⟩ (.int .i64 y.start)).setCell ⟨G, k * 6 + 4, none⟩ (.int .i64 y.len)) (.slice (some ⟨G, 0, none⟩) n c1) ((((xs.set k ⟨t.cls, ⟨y.weeks, t.tim.day, t.tim.start, t.tim.len⟩, t.room⟩).set k ⟨t.cls, ⟨y.weeks, y.day, t.tim.start, t.tim.len⟩, t.room⟩).set k ⟨t.cls, ⟨y.weeks, y.day, y.start, t.tim.len⟩, t.room⟩).set k ⟨t.cls, ⟨y.weeks, y.day, y.start, y.len⟩, t.room⟩) from HRs2.out.put k 4 ⟨t.cls, ⟨y.weeks, y.day, y.start, t.tim.len⟩, t.room⟩ ⟨t.cls, ⟨y.weeks, y.day, y.start, y.len⟩, t.room⟩ _ (by rw [List.getElem?_set_self (by first | (have := HN.out; omega) | (simp only [List.length_set]; have := HN.out; omega))]) (by decide) rfl)
    have HSs3 := Lib.hid (HSs2.out.set hG hbG (k * 6 + 4) (.int .i64 y.len))
    go_wp2_with fail
    go_ret; first | exact ⟨_, _, rfl, HRs3.out, by have := HN.out; simp only [List.length_set]; omega, HSs3.out⟩ | exact ⟨_, rfl, _, HRs3.out, by have := HN.out; simp only [List.length_set]; omega, HSs3.out⟩
  · obtain ⟨I, hI⟩ : ∃ g, g = x3.heap.size := ⟨_, rfl⟩
    obtain ⟨x4, hx4⟩ : ∃ X, X = x3.alloc (.cells #[.string ⟨#[97, 32, 98]⟩, .string ⟨#[82, 49]⟩, .string ⟨#[45]⟩] 9) := ⟨_, rfl⟩
    have HS4 := Lib.hid (show Sofar b w x4 from by rw [hx4]; exact HS3.out.alloc _)
    have HR4 := Lib.hid (show RowS w.heap.size x4 (.slice (some ⟨G, 0, none⟩) n c1) xs from by rw [hx4]; exact World.ownsRow.alloc HR3.out _)
    have HI4 := Lib.hid (show Blk I #[.string ⟨#[97, 32, 98]⟩, .string ⟨#[82, 49]⟩, .string ⟨#[45]⟩] 9 x4 from by rw [hx4, hI]; exact Blk.new x3 _ _)
    have nIb : I ≠ b := by have := HS3.out.dice.lt; omega
    go_wp2_with fail
    rw [← hx4, ← hI]; clear hx4 hI HS3 HR3; refine (next_any b 3 _ HS4.out.dice (by omega) (by omega)).mono ?_
    rintro e x5 ⟨z, rfl, z0, z1, -, hd, ho⟩; have z1 := z1 (by omega)
    have HS5 := Lib.hid (HS4.out.only hd ho)
    have HR5 := Lib.hid (show RowS w.heap.size x5 (.slice (some ⟨G, 0, none⟩) n c1) xs from row_but HR4.out HWB.out ho.but)
    have HI5 := Lib.hid (HI4.out.only ho nIb)
    clear hd ho HS4 HR4 HI4; obtain ⟨v, hv⟩ : ∃ v : ByteArray, x5.cell? ⟨I, z.toNat, none⟩ = some (.string v) := by rcases (show z = 0 ∨ z = 1 ∨ z = 2 by omega) with rfl | rfl | rfl <;> exact ⟨_, HI5.out.cell _⟩
    have hc : x5.cell? ⟨G, k * 6 + 5, none⟩ = some (.string t.room) := HR5.out.cell k 5 t _ HT.out (by decide) rfl
    have hf : x5.frozen? ⟨G, k * 6 + 5, none⟩ = false := HR5.out.frz _
    go_upto_region 20 with (fail)
    clear hv hc hf; have HR6 := Lib.hid (show RowS w.heap.size (x5.setCell ⟨G, k * 6 + 5, none⟩ (.string v)) (.slice (some ⟨G, 0, none⟩) n c1) (xs.set k { t with room := v }) from HR5.out.put k 5 t { t with room := v } _ HT.out (by decide) rfl)
    have HS6 := Lib.hid (HS5.out.set hG hbG (k * 6 + 5) (.string v))
    go_wp2_with fail
    go_ret; first | exact ⟨_, _, rfl, HR6.out, by have := HN.out; rw [List.length_set]; omega, HS6.out⟩ | exact ⟨_, rfl, _, HR6.out, by have := HN.out; rw [List.length_set]; omega, HS6.out⟩
  · have hc0 : x3.cell? ⟨G, k * 6, none⟩ = some (.string t.cls) := HR3.out.cell k 0 t _ HT.out (by decide) rfl
    have hc1 : x3.cell? ⟨G, k * 6 + 1, none⟩ = some (.int .i64 t.tim.weeks) := HR3.out.cell k 1 t _ HT.out (by decide) rfl
    have hc2 : x3.cell? ⟨G, k * 6 + 2, none⟩ = some (.int .i64 t.tim.day) := HR3.out.cell k 2 t _ HT.out (by decide) rfl
    have hc3 : x3.cell? ⟨G, k * 6 + 3, none⟩ = some (.int .i64 t.tim.start) := HR3.out.cell k 3 t _ HT.out (by decide) rfl
    have hc4 : x3.cell? ⟨G, k * 6 + 4, none⟩ = some (.int .i64 t.tim.len) := HR3.out.cell k 4 t _ HT.out (by decide) rfl
    have hc5 : x3.cell? ⟨G, k * 6 + 5, none⟩ = some (.string t.room) := HR3.out.cell k 5 t _ HT.out (by decide) rfl
    have hxl : xs.length ≤ 12 := by have := HN.out; omega
    go_wp2_with (at_builtin; refine wpList_append_own_at _ rfl (.tmp 86) (.tmp 91) 110 rfl w.heap.size 107 i0 _ 6 64 Tryz.underlying110 hii hz0 hz1 hz2 rfl (by decide) _ _ _ rfl (World.ownsRow.alloc HR3.out _) ⟨x3.heap.size, 0, none⟩ 1 1 (sesCells t).toList rfl rfl (blk_cells (Blk.new x3 (sesCells t) 107)) (sL_cell1 t) (by unfold maxLen; omega) (by omega) (by have := HS3.out.but.size; simp at this ⊢; omega) ?_)
    intro v8 x8 hown8 hgrow _ hat; have HS8 := Lib.hid ((HS3.out.alloc (.cells (sesCells t) 107)).grow (World.ownsRow.alloc HR3.out _) (Nat.le_refl _) HWB.out (by have := HS3.out.but.size; simp at this ⊢; omega) hgrow)
    have HR8 := Lib.hid (show RowS w.heap.size x8 v8 (xs ++ [t]) from RowS.snoc hown8)
    clear hown8 hgrow hat hc0 hc1 hc2 hc3 hc4 hc5; go_wp2_with fail
    go_ret; first | exact ⟨_, _, rfl, HR8.out, by have := HN.out; rw [List.length_append]; simp; omega, HS8.out⟩ | exact ⟨_, rfl, _, HR8.out, by have := HN.out; rw [List.length_append]; simp; omega, HS8.out⟩
  · go_wp2_with fail
    refine (next_any b 40 _ HS3.out.dice (by omega) (by omega)).mono ?_
    rintro e x5 ⟨z, rfl, z0, z1, -, hd, ho⟩; have z1 := z1 (by omega)
    have HS5 := Lib.hid (HS3.out.only hd ho)
    have HR5 := Lib.hid (show RowS w.heap.size x5 (.slice (some ⟨G, 0, none⟩) n c1) xs from row_but HR3.out HWB.out ho.but)
    clear hd ho HS3 HR3; have hc : x5.cell? ⟨G, k * 6 + 1, none⟩ = some (.int .i64 t.tim.weeks) := HR5.out.cell k 1 t _ HT.out (by decide) rfl
    have hf : x5.frozen? ⟨G, k * 6 + 1, none⟩ = false := HR5.out.frz _
    go_upto_region 20 with (fail)
    clear hc hf; have HR6 := Lib.hid (show RowS w.heap.size (x5.setCell ⟨G, k * 6 + 1, none⟩ (.int .i64 (1 + z))) (.slice (some ⟨G, 0, none⟩) n c1) (xs.set k ⟨t.cls, ⟨1 + z, t.tim.day, t.tim.start, t.tim.len⟩, t.room⟩) from HR5.out.put k 1 t ⟨t.cls, ⟨1 + z, t.tim.day, t.tim.start, t.tim.len⟩, t.room⟩ _ HT.out (by decide) rfl)
    have HS6 := Lib.hid (HS5.out.set hG hbG (k * 6 + 1) (.int .i64 (1 + z)))
    go_wp2_with fail
    go_ret; first | exact ⟨_, _, rfl, HR6.out, by have := HN.out; rw [List.length_set]; omega, HS6.out⟩ | exact ⟨_, rfl, _, HR6.out, by have := HN.out; rw [List.length_set]; omega, HS6.out⟩
  · go_wp2_with fail
    go_loopw [5, 7] (fun ov iv wr => ∃ (j : Nat) (ys : List Ses), iv = .int .i64 j ∧ j ≤ 97 ∧ ys.length ≤ 12 + j ∧ Hid (RowS w.heap.size wr ov ys) ∧ Hid (Sofar b w wr)) (fun _ iv _ => 97 - (intOf iv).toNat)
    case atStart => exact ⟨0, xs, rfl, by omega, by have := HN.out; omega, by first | exact HR3 | (rw [HN.out] at HR3; exact HR3), HS3⟩
    case round =>
      clear HR3 HS3 hG hbG hsz3; obtain ⟨j, ys, rfl, hj, hyl, HR, HS⟩ := hrel; by_cases hlt : j < 97
      rotate_left
      · have hji : ¬ (j : Int) < 97 := by omega
        go_wp2_with fail
        go_ret; first | exact ⟨_, _, rfl, HR.out, by omega, HS.out⟩ | exact ⟨_, rfl, _, HR.out, by omega, HS.out⟩
      have hji : (j : Int) < 97 := by omega
      have hj0 : (0 : Int) ≤ (j : Int) := by omega
      have hjt : (j : Int).tmod 26 = (j : Int) % 26 := Int.tmod_eq_emod_of_nonneg hj0
      have hjq : (j : Int).tdiv 26 = (j : Int) / 26 := Int.tdiv_eq_ediv_of_nonneg hj0
      have HJ := Lib.hid hlt; obtain ⟨z, hz, hcv⟩ := two_byte_blk (a := 65 + (j : Int) % 26) (b := 97 + (j : Int) / 26) (by omega) (by omega) (by omega) (by omega) (Blk.new wr _ 5)
      obtain ⟨pu, cu, hu⟩ := HR.out.slice
      subst hu; have HRb := Lib.hid (show RowS w.heap.size (wr.alloc (.cells #[.int .u8 (65 + (j : Int) % 26), .int .u8 (97 + (j : Int) / 26)] 5)) _ ys from World.ownsRow.alloc HR.out _)
      have HSb := Lib.hid (show Sofar b w (wr.alloc (.cells #[.int .u8 (65 + (j : Int) % 26), .int .u8 (97 + (j : Int) / 26)] 5)) from HS.out.alloc _)
      go_wp2_with (at_builtin; refine wpList_append_own_at _ rfl (.tmp 33) (.tmp 47) 110 rfl w.heap.size 107 i0 _ 6 64 Tryz.underlying110 hii hz0 hz1 hz2 rfl (by decide) _ _ _ rfl (World.ownsRow.alloc HRb.out _) ⟨wr.heap.size + 1, 0, none⟩ 1 1 (sesCells ⟨(⟨#[122]⟩ : ByteArray) ++ z, ⟨1, 0, 0, 1⟩, ⟨#[]⟩⟩).toList rfl rfl (blk_cells (Blk.new' (wr.alloc (.cells #[.int .u8 (65 + (j : Int) % 26), .int .u8 (97 + (j : Int) / 26)] 5)) (sesCells ⟨(⟨#[122]⟩ : ByteArray) ++ z, ⟨1, 0, 0, 1⟩, ⟨#[]⟩⟩) 107 (by simp))) (sL_cell1 ⟨(⟨#[122]⟩ : ByteArray) ++ z, ⟨1, 0, 0, 1⟩, ⟨#[]⟩⟩) (by unfold maxLen; omega) (by omega) (by have := HSb.out.but.size; simp at this ⊢; omega) ?_)
      intro v8 x8 hown8 hgrow _ hat; have HS8 := Lib.hid ((HSb.out.alloc (.cells (sesCells ⟨(⟨#[122]⟩ : ByteArray) ++ z, ⟨1, 0, 0, 1⟩, ⟨#[]⟩⟩) 107)).grow (World.ownsRow.alloc HRb.out _) (Nat.le_refl _) HWB.out (by have := HSb.out.but.size; simp at this ⊢; omega) hgrow)
      have HR8 := Lib.hid (show RowS w.heap.size x8 v8 (ys ++ [⟨(⟨#[122]⟩ : ByteArray) ++ z, ⟨1, 0, 0, 1⟩, ⟨#[]⟩⟩]) from RowS.snoc hown8)
      clear hown8 hgrow hat hcv; go_wp2_with fail
      go_roundw
      case rel => exact ⟨j + 1, ys ++ [⟨(⟨#[122]⟩ : ByteArray) ++ z, ⟨1, 0, 0, 1⟩, ⟨#[]⟩⟩], by go_num, by have := HJ.out; omega, by rw [List.length_append]; simp; omega, HR8, HS8⟩
      case measure => simp [intOf]; omega
end Go.Proofs.YtageielcdebjlaaGreatDoor
