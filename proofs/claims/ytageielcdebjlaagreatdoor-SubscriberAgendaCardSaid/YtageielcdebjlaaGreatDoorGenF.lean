/- timetablemore.Feed: its contract: a feed without fault in new memory. -/
import Derived.Test.YtageielcdebjlaaGreatDoorPk9
namespace Go.Proofs.YtageielcdebjlaaGreatDoor
open Go.RowKit

/-- The identifier of the k-th event that timetablemore.Feed draws. -/
def UidK (k : Int) (u : ByteArray) : Prop := ∃ c d : UInt8, u.data.toList = [99, c, 64, d] ∧ (c.toNat : Int) = 49 + k ∧ 49 ≤ d.toNat ∧ d.toNat ≤ 57
/-- The same, with what makes it valid. -/
def FeedGV (b : Nat) (w : World) (e : Ending) (w' : World) : Prop := ∃ (n : ByteArray) (v : Int) (pu : Option Addr) (cu : Nat) (ts : List (Ev × Value × Value)), e = .returned (.agg #[.string n, .int .i64 v, .slice pu ts.length cu]) ∧ n.size ≤ 1000 ∧ 1 ≤ v ∧ v ≤ 6 ∧ ts.length ≤ 4 ∧ RowE w.heap.size w' (.slice pu ts.length cu) ts ∧ (∀ t ∈ ts, SerG t.1.days) ∧ Tt.code n.data.toList = true ∧ (∀ (i : Nat) (t : Ev × Value × Value), ts[i]? = some t → UidK i t.1.uid ∧ checkV t.1 v = 0) ∧ Dice b w' ∧ But b w.heap.size w w'

theorem snoc_all {ts : List (Ev × Value × Value)} {t : Ev × Value × Value} {k v : Int} (h : (∀ t ∈ ts, SerG t.1.days) ∧ ∀ (i : Nat) (t : Ev × Value × Value), ts[i]? = some t → UidK i t.1.uid ∧ checkV t.1 v = 0) (hk : (ts.length : Int) = k) (ht : SerG t.1.days ∧ UidK k t.1.uid ∧ checkV t.1 v = 0) :
    (∀ s ∈ ts ++ [t], SerG s.1.days) ∧ ∀ (i : Nat) (s : Ev × Value × Value), (ts ++ [t])[i]? = some s → UidK i s.1.uid ∧ checkV s.1 v = 0 := by
  refine ⟨fun s hs => (List.mem_append.1 hs).elim (h.1 s) (fun h3 => by rw [List.mem_singleton.1 h3]; exact ht.1), fun i s hs => ?_⟩
  rcases Nat.lt_or_ge i ts.length with hi | hi
  · rw [List.getElem?_append_left hi] at hs; exact h.2 i s hs
  · rw [List.getElem?_append_right hi] at hs
    have h1 := (List.getElem?_eq_some_iff.1 hs).1
    simp only [List.length_cons, List.length_nil] at h1
    have h2 : i = ts.length := by omega
    subst h2; rw [Nat.sub_self] at hs
    simp at hs
    rw [← hs, hk]; exact ht.2

set_option maxHeartbeats 16000000 in
set_option maxRecDepth 100000 in
theorem feed20v (b : Nat) (w : World) (hd : Dice b w) :
    Calls Tryz.prog 20 #[.pointer (some ⟨b, 0, none⟩)] w (FeedGV b w) := by
  have hblt := hd.lt; have hRb : w.heap.size ≠ b := by omega
  have HR0 := Lib.hid (Blk.new w #[.string ⟨#[]⟩, .int .i64 0, .slice none 0 0] 26)
  have HK0 := Lib.hid (but_alloc (But.refl b w.heap.size w) (Nat.le_refl _) (.cells #[.string ⟨#[]⟩, .int .i64 0, .slice none 0 0] 26))
  have HD0 := Lib.hid (dice_alloc hd (.cells #[.string ⟨#[]⟩, .int .i64 0, .slice none 0 0] 26))
  have hbB : b < (w.alloc (.cells #[.string ⟨#[]⟩, .int .i64 0, .slice none 0 0] 26)).heap.size := by simp; omega
  obtain ⟨wa, hwa⟩ : ∃ wa, wa = w.alloc (.cells #[.string ⟨#[]⟩, .int .i64 0, .slice none 0 0] 26) := ⟨_, rfl⟩
  rw [← hwa] at HR0 HK0 HD0 hbB
  go_enter Tryz.func20, Tryz.ntmps20
  go_upto_region 1 with (fail)
  rw [← hwa]; clear hwa; go_cut [3] (fun s3 wx => ∃ (S : Nat) (nm : ByteArray) (v1 : Int), s3 = .pointer (some ⟨S, 0, none⟩) ∧ nm.size ≤ 1000 ∧ 1 ≤ v1 ∧ v1 ≤ 6 ∧ Hid (Tt.code nm.data.toList = true) ∧ Hid (w.heap.size < S) ∧ Hid (Blk S #[.string nm, .int .i64 v1, .slice none 0 0] 26 wx) ∧ Hid (Blk w.heap.size #[.string ⟨#[]⟩, .int .i64 0, .slice none 0 0] 26 wx) ∧ Hid (Dice b wx) ∧ Hid (But b w.heap.size w wx))
  case first =>
    refine wp_region_tail 10 (by kernel_rfl) (fun listed a x => ∃ (l0 l1 l2 l3 l4 l5 l6 l7 l8 l9 : Bool) (t3 t6 t7 t8 t9 t10 t11 t12 t13 t14 : Value), listed = #[l0, l1, l2, l3, l4, l5, l6, l7, l8, l9, false] ∧ a = ⟨(.pointer (some ⟨b, 0, none⟩) :: undef :: .pointer (some ⟨w.heap.size, 0, none⟩) :: t3 :: undef :: undef :: t6 :: t7 :: t8 :: t9 :: t10 :: t11 :: t12 :: t13 :: t14 :: undef :: undef :: undef :: undef :: undef :: undef :: undef :: undef :: undef :: undef :: undef :: undef :: undef :: undef :: undef :: undef :: undef :: undef :: undef :: undef :: undef :: undef :: undef :: undef :: undef :: undef :: undef :: undef :: undef :: undef :: undef :: []).toArray, []⟩ ∧ Hid (l0 = true → l3 = false → ∃ (g : Nat), t6 = .slice (some ⟨g, 0, none⟩) 3 3 ∧ wa.heap.size ≤ g ∧ Blk g #[.string ⟨#[115, 49]⟩, .string ⟨#[82, 49]⟩, .string ⟨#[97, 100, 97]⟩] 9 x) ∧ Hid (l1 = true → t7 = .pointer (some ⟨b, 0, none⟩)) ∧ Hid (l2 = true → ∃ (n : Int), t8 = .int .i64 n ∧ 0 ≤ n ∧ n ≤ 2) ∧ Hid (l3 = true → l4 = false → ∃ (g : Nat) (k : Nat), t9 = .pointer (some ⟨g, k, none⟩) ∧ k < 3 ∧ wa.heap.size ≤ g ∧ Blk g #[.string ⟨#[115, 49]⟩, .string ⟨#[82, 49]⟩, .string ⟨#[97, 100, 97]⟩] 9 x) ∧ Hid (l4 = true → ∃ (s : ByteArray), t10 = .string s ∧ s.size ≤ 1000 ∧ Tt.code s.data.toList = true) ∧ Hid (l5 = true → t11 = .pointer (some ⟨b, 0, none⟩)) ∧ Hid (l6 = true → ∃ (n : Int), t12 = .int .i64 n ∧ 0 ≤ n ∧ n ≤ 5) ∧ Hid (l7 = true → ∃ (n : Int), t13 = .int .i64 n ∧ 1 ≤ n ∧ n ≤ 6) ∧ Hid (l8 = true → ∃ (s : ByteArray) (n : Int), t14 = .agg #[.string s, .int .i64 n, .slice none 0 0] ∧ s.size ≤ 1000 ∧ 1 ≤ n ∧ n ≤ 6 ∧ Tt.code s.data.toList = true) ∧ Hid (l9 = true → ∃ (S : Nat), t3 = .pointer (some ⟨S, 0, none⟩) ∧ wa.heap.size ≤ S ∧ Blk S #[.string ⟨#[]⟩, .int .i64 0, .slice none 0 0] 26 x) ∧ Hid (Sofar b wa x)) (by decide) (by kernel_rfl) (by kernel_rfl) ?_ ?_ ?_ ?_
    · exact ⟨false, false, false, false, false, false, false, false, false, false, _, _, _, _, _, _, _, _, _, _, rfl, rfl, Lib.hid (fun h => by cases h), Lib.hid (fun h => by cases h), Lib.hid (fun h => by cases h), Lib.hid (fun h => by cases h), Lib.hid (fun h => by cases h), Lib.hid (fun h => by cases h), Lib.hid (fun h => by cases h), Lib.hid (fun h => by cases h), Lib.hid (fun h => by cases h), Lib.hid (fun h => by cases h), Lib.hid (Sofar.start HD0.out)⟩
    · intro listed a x hj; obtain ⟨l0, hj⟩ := hj
      obtain ⟨l1, hj⟩ := hj; obtain ⟨l2, hj⟩ := hj; obtain ⟨l3, hj⟩ := hj; obtain ⟨l4, hj⟩ := hj; obtain ⟨l5, hj⟩ := hj; obtain ⟨l6, hj⟩ := hj; obtain ⟨l7, hj⟩ := hj; obtain ⟨l8, hj⟩ := hj; obtain ⟨l9, hj⟩ := hj; obtain ⟨t3, hj⟩ := hj; obtain ⟨t6, hj⟩ := hj; obtain ⟨t7, hj⟩ := hj; obtain ⟨t8, hj⟩ := hj; obtain ⟨t9, hj⟩ := hj; obtain ⟨t10, hj⟩ := hj; obtain ⟨t11, hj⟩ := hj; obtain ⟨t12, hj⟩ := hj; obtain ⟨t13, hj⟩ := hj; obtain ⟨t14, hj⟩ := hj; obtain ⟨h1, -⟩ := hj; subst h1; exact ⟨rfl, fun k h1 h2 => by (have h2 : k < 11 := h2); obtain rfl : k = 10 := (by omega); rfl⟩
    · intro listed a x i hj hlt hu haf; obtain ⟨l0, hj⟩ := hj
      obtain ⟨l1, hj⟩ := hj; obtain ⟨l2, hj⟩ := hj; obtain ⟨l3, hj⟩ := hj; obtain ⟨l4, hj⟩ := hj; obtain ⟨l5, hj⟩ := hj; obtain ⟨l6, hj⟩ := hj; obtain ⟨l7, hj⟩ := hj; obtain ⟨l8, hj⟩ := hj; obtain ⟨l9, hj⟩ := hj; obtain ⟨t3, hj⟩ := hj; obtain ⟨t6, hj⟩ := hj; obtain ⟨t7, hj⟩ := hj; obtain ⟨t8, hj⟩ := hj; obtain ⟨t9, hj⟩ := hj; obtain ⟨t10, hj⟩ := hj; obtain ⟨t11, hj⟩ := hj; obtain ⟨t12, hj⟩ := hj; obtain ⟨t13, hj⟩ := hj; obtain ⟨t14, hj⟩ := hj; obtain ⟨hl_, hj⟩ := hj; obtain ⟨ha_, hj⟩ := hj; obtain ⟨H0, hj⟩ := hj; obtain ⟨H1, hj⟩ := hj; obtain ⟨H2, hj⟩ := hj; obtain ⟨H3, hj⟩ := hj; obtain ⟨H4, hj⟩ := hj; obtain ⟨H5, hj⟩ := hj; obtain ⟨H6, hj⟩ := hj; obtain ⟨H7, hj⟩ := hj; obtain ⟨H8, hj⟩ := hj; obtain ⟨H9, hj⟩ := hj; have HS := hj; clear hj; subst hl_; subst ha_; rcases (show ∀ i : Nat, i < 10 → (i = 0 ∨ i = 1 ∨ i = 2 ∨ i = 3 ∨ i = 4 ∨ i = 5 ∨ i = 6 ∨ i = 7 ∨ i = 8 ∨ i = 9) by decide) i hlt with rfl | rfl | rfl | rfl | rfl | rfl | rfl | rfl | rfl | rfl
      · have haf := haf _ rfl; clear haf
        have hu : l0 = false := hu
        refine wpOp_of_list_any rfl fun QQ hQ => ?_
        have hQQ := Lib.hid hQ; clear hQ; simp only [List.getElem_toArray, List.getElem_cons_zero]
        go_wp2_with fail
        exact hQQ.out _ _ ⟨true, l1, l2, l3, l4, l5, l6, l7, l8, l9, _, _, _, _, _, _, _, _, _, _, rfl, rfl, Lib.hid (fun _ _ => ⟨_, rfl, HS.out.but.size, Blk.new x _ _⟩), H1, H2, Lib.hid (fun h h2 => (by obtain ⟨g, k, e, c0, c1, c2⟩ := H3.out h h2; exact ⟨g, k, e, c0, c1, ((Kept.alloc _ x _) _ _ _ c1 c2)⟩)), H4, H5, H6, H7, H8, Lib.hid (fun h => (by obtain ⟨S, e, c0, c1⟩ := H9.out h; exact ⟨S, e, c0, ((Kept.alloc _ x _) _ _ _ c0 c1)⟩)), Lib.hid (HS.out.alloc _)⟩
      · have haf := haf _ rfl; clear haf
        have hu : l1 = false := hu
        refine wpOp_of_list_any rfl fun QQ hQ => ?_
        have hQQ := Lib.hid hQ; clear hQ; simp only [List.getElem_toArray, List.getElem_cons_zero, List.getElem_cons_succ]
        go_wp2_with fail
        exact hQQ.out _ _ ⟨l0, true, l2, l3, l4, l5, l6, l7, l8, l9, _, _, _, _, _, _, _, _, _, _, rfl, rfl, H0, Lib.hid (fun _ => rfl), H2, H3, H4, H5, H6, H7, H8, H9, HS⟩
      · have haf := haf _ rfl; have q1 : l1 = true := haf ⟨1, Go.Ground.data⟩ (by simp) rfl
        clear haf; have hu : l2 = false := hu
        have e1 := (H1.out q1)
        subst e1; clear H1; refine wpOp_of_list_any rfl fun QQ hQ => ?_
        have hQQ := Lib.hid hQ; clear hQ; simp only [List.getElem_toArray, List.getElem_cons_zero, List.getElem_cons_succ]
        go_wp2_with fail
        refine (next_any b 3 _ HS.out.dice (by omega) (by omega)).mono ?_
        rintro e x1 ⟨v, rfl, h0, h1, -, hd1, ho1⟩; have h1 := h1 (by omega)
        have hk := Kept.only ho1 hbB; have HS1 := Lib.hid (HS.out.only hd1 ho1)
        clear ho1 hd1; go_wp2_with fail
        exact hQQ.out _ _ ⟨l0, l1, true, l3, l4, l5, l6, l7, l8, l9, _, _, _, _, _, _, _, _, _, _, rfl, rfl, Lib.hid (fun h h2 => (by obtain ⟨g, e, c0, c1⟩ := H0.out h h2; exact ⟨g, e, c0, (hk _ _ _ c0 c1)⟩)), Lib.hid (fun _ => rfl), Lib.hid (fun _ => ⟨_, rfl, by omega, by omega⟩), Lib.hid (fun h h2 => (by obtain ⟨g, k, e, c0, c1, c2⟩ := H3.out h h2; exact ⟨g, k, e, c0, c1, (hk _ _ _ c1 c2)⟩)), H4, H5, H6, H7, H8, Lib.hid (fun h => (by obtain ⟨S, e, c0, c1⟩ := H9.out h; exact ⟨S, e, c0, (hk _ _ _ c0 c1)⟩)), HS1⟩
      · have haf := haf _ rfl; have q0 : l0 = true := haf ⟨0, Go.Ground.data⟩ (by simp) rfl
        have q2 : l2 = true := haf ⟨2, Go.Ground.data⟩ (by simp) rfl
        clear haf; have hu : l3 = false := hu
        obtain ⟨g0, e0, c0_0, c0_1⟩ := (H0.out q0 hu)
        subst e0; clear H0; obtain ⟨n2, e2, c2_0, c2_1⟩ := (H2.out q2)
        subst e2; clear H2; refine wpOp_of_list_any rfl fun QQ hQ => ?_
        have hQQ := Lib.hid hQ; clear hQ; simp only [List.getElem_toArray, List.getElem_cons_zero, List.getElem_cons_succ]
        go_wp2_with fail
        exact hQQ.out _ _ ⟨l0, l1, l2, true, l4, l5, l6, l7, l8, l9, _, _, _, _, _, _, _, _, _, _, rfl, rfl, Lib.hid (fun _ h => by cases h), H1, Lib.hid (fun _ => ⟨n2, rfl, c2_0, c2_1⟩), Lib.hid (fun _ _ => ⟨_, _, rfl, by omega, by omega, by assumption⟩), H4, H5, H6, H7, H8, H9, HS⟩
      · have haf := haf _ rfl; have q3 : l3 = true := haf ⟨3, Go.Ground.data⟩ (by simp) rfl
        clear haf; have hu : l4 = false := hu
        obtain ⟨g3, k3, e3, c3_0, c3_1, c3_2⟩ := (H3.out q3 hu)
        subst e3; clear H3; obtain ⟨v, hv, hP⟩ : ∃ v, x.cell? ⟨g3, k3, none⟩ = some v ∧ (∃ (s : ByteArray), v = .string s ∧ s.size ≤ 1000 ∧ Tt.code s.data.toList = true) := by
          rcases (show k3 = 0 ∨ k3 = 1 ∨ k3 = 2 by omega) with rfl | rfl | rfl
          · exact ⟨_, c3_2.cell 0, _, rfl, by first | omega | decide, by first | omega | decide⟩
          · exact ⟨_, c3_2.cell 1, _, rfl, by first | omega | decide, by first | omega | decide⟩
          · exact ⟨_, c3_2.cell 2, _, rfl, by first | omega | decide, by first | omega | decide⟩
        obtain ⟨y0, rfl, d0, d1⟩ := hP; refine wpOp_of_list_any rfl fun QQ hQ => ?_
        have hQQ := Lib.hid hQ; clear hQ; simp only [List.getElem_toArray, List.getElem_cons_zero, List.getElem_cons_succ]
        go_wp2_with fail
        exact hQQ.out _ _ ⟨l0, l1, l2, l3, true, l5, l6, l7, l8, l9, _, _, _, _, _, _, _, _, _, _, rfl, rfl, H0, H1, H2, Lib.hid (fun _ h => by cases h), Lib.hid (fun _ => ⟨_, rfl, d0, d1⟩), H5, H6, H7, H8, H9, HS⟩
      · have haf := haf _ rfl; clear haf
        have hu : l5 = false := hu
        refine wpOp_of_list_any rfl fun QQ hQ => ?_
        have hQQ := Lib.hid hQ; clear hQ; simp only [List.getElem_toArray, List.getElem_cons_zero, List.getElem_cons_succ]
        go_wp2_with fail
        exact hQQ.out _ _ ⟨l0, l1, l2, l3, l4, true, l6, l7, l8, l9, _, _, _, _, _, _, _, _, _, _, rfl, rfl, H0, H1, H2, H3, H4, Lib.hid (fun _ => rfl), H6, H7, H8, H9, HS⟩
      · have haf := haf _ rfl; have q5 : l5 = true := haf ⟨5, Go.Ground.data⟩ (by simp) rfl
        clear haf; have hu : l6 = false := hu
        have e5 := (H5.out q5)
        subst e5; clear H5; refine wpOp_of_list_any rfl fun QQ hQ => ?_
        have hQQ := Lib.hid hQ; clear hQ; simp only [List.getElem_toArray, List.getElem_cons_zero, List.getElem_cons_succ]
        go_wp2_with fail
        refine (next_any b 6 _ HS.out.dice (by omega) (by omega)).mono ?_
        rintro e x1 ⟨v, rfl, h0, h1, -, hd1, ho1⟩; have h1 := h1 (by omega)
        have hk := Kept.only ho1 hbB; have HS1 := Lib.hid (HS.out.only hd1 ho1)
        clear ho1 hd1; go_wp2_with fail
        exact hQQ.out _ _ ⟨l0, l1, l2, l3, l4, l5, true, l7, l8, l9, _, _, _, _, _, _, _, _, _, _, rfl, rfl, Lib.hid (fun h h2 => (by obtain ⟨g, e, c0, c1⟩ := H0.out h h2; exact ⟨g, e, c0, (hk _ _ _ c0 c1)⟩)), H1, H2, Lib.hid (fun h h2 => (by obtain ⟨g, k, e, c0, c1, c2⟩ := H3.out h h2; exact ⟨g, k, e, c0, c1, (hk _ _ _ c1 c2)⟩)), H4, Lib.hid (fun _ => rfl), Lib.hid (fun _ => ⟨_, rfl, by omega, by omega⟩), H7, H8, Lib.hid (fun h => (by obtain ⟨S, e, c0, c1⟩ := H9.out h; exact ⟨S, e, c0, (hk _ _ _ c0 c1)⟩)), HS1⟩
      · have haf := haf _ rfl; have q6 : l6 = true := haf ⟨6, Go.Ground.data⟩ (by simp) rfl
        clear haf; have hu : l7 = false := hu
        obtain ⟨n6, e6, c6_0, c6_1⟩ := (H6.out q6)
        subst e6; clear H6; refine wpOp_of_list_any rfl fun QQ hQ => ?_
        have hQQ := Lib.hid hQ; clear hQ; simp only [List.getElem_toArray, List.getElem_cons_zero, List.getElem_cons_succ]
        go_wp2_with fail
        exact hQQ.out _ _ ⟨l0, l1, l2, l3, l4, l5, l6, true, l8, l9, _, _, _, _, _, _, _, _, _, _, rfl, rfl, H0, H1, H2, H3, H4, H5, Lib.hid (fun _ => ⟨n6, rfl, c6_0, c6_1⟩), Lib.hid (fun _ => ⟨_, rfl, by omega, by omega⟩), H8, H9, HS⟩
      · have haf := haf _ rfl; have q4 : l4 = true := haf ⟨4, Go.Ground.data⟩ (by simp) rfl
        have q7 : l7 = true := haf ⟨7, Go.Ground.data⟩ (by simp) rfl
        clear haf; have hu : l8 = false := hu
        obtain ⟨s4, e4, c4_0, c4_1⟩ := (H4.out q4)
        subst e4; clear H4; obtain ⟨n7, e7, c7_0, c7_1⟩ := (H7.out q7)
        subst e7; clear H7; refine wpOp_of_list_any rfl fun QQ hQ => ?_
        have hQQ := Lib.hid hQ; clear hQ; simp only [List.getElem_toArray, List.getElem_cons_zero, List.getElem_cons_succ]
        go_wp2_with fail
        exact hQQ.out _ _ ⟨l0, l1, l2, l3, l4, l5, l6, l7, true, l9, _, _, _, _, _, _, _, _, _, _, rfl, rfl, H0, H1, H2, H3, Lib.hid (fun _ => ⟨s4, rfl, c4_0, c4_1⟩), H5, H6, Lib.hid (fun _ => ⟨n7, rfl, c7_0, c7_1⟩), Lib.hid (fun _ => ⟨_, _, rfl, c4_0, by omega, by omega, c4_1⟩), H9, HS⟩
      · have haf := haf _ rfl; clear haf
        have hu : l9 = false := hu
        refine wpOp_of_list_any rfl fun QQ hQ => ?_
        have hQQ := Lib.hid hQ; clear hQ; simp only [List.getElem_toArray, List.getElem_cons_zero, List.getElem_cons_succ]
        go_wp2_with fail
        exact hQQ.out _ _ ⟨l0, l1, l2, l3, l4, l5, l6, l7, l8, true, _, _, _, _, _, _, _, _, _, _, rfl, rfl, Lib.hid (fun h h2 => (by obtain ⟨g, e, c0, c1⟩ := H0.out h h2; exact ⟨g, e, c0, ((Kept.alloc _ x _) _ _ _ c0 c1)⟩)), H1, H2, Lib.hid (fun h h2 => (by obtain ⟨g, k, e, c0, c1, c2⟩ := H3.out h h2; exact ⟨g, k, e, c0, c1, ((Kept.alloc _ x _) _ _ _ c1 c2)⟩)), H4, H5, H6, H7, H8, Lib.hid (fun _ => ⟨_, rfl, HS.out.but.size, Blk.new x _ _⟩), Lib.hid (HS.out.alloc _)⟩
    · intro listed a x hj hall; obtain ⟨l0, hj⟩ := hj
      obtain ⟨l1, hj⟩ := hj; obtain ⟨l2, hj⟩ := hj; obtain ⟨l3, hj⟩ := hj; obtain ⟨l4, hj⟩ := hj; obtain ⟨l5, hj⟩ := hj; obtain ⟨l6, hj⟩ := hj; obtain ⟨l7, hj⟩ := hj; obtain ⟨l8, hj⟩ := hj; obtain ⟨l9, hj⟩ := hj; obtain ⟨t3, hj⟩ := hj; obtain ⟨t6, hj⟩ := hj; obtain ⟨t7, hj⟩ := hj; obtain ⟨t8, hj⟩ := hj; obtain ⟨t9, hj⟩ := hj; obtain ⟨t10, hj⟩ := hj; obtain ⟨t11, hj⟩ := hj; obtain ⟨t12, hj⟩ := hj; obtain ⟨t13, hj⟩ := hj; obtain ⟨t14, hj⟩ := hj; obtain ⟨hl_, hj⟩ := hj; obtain ⟨ha_, hj⟩ := hj; obtain ⟨H0, hj⟩ := hj; obtain ⟨H1, hj⟩ := hj; obtain ⟨H2, hj⟩ := hj; obtain ⟨H3, hj⟩ := hj; obtain ⟨H4, hj⟩ := hj; obtain ⟨H5, hj⟩ := hj; obtain ⟨H6, hj⟩ := hj; obtain ⟨H7, hj⟩ := hj; obtain ⟨H8, hj⟩ := hj; obtain ⟨H9, hj⟩ := hj; have HS := hj; clear hj; subst hl_; subst ha_; have q9 : l9 = true := hall 9 (by omega)
      have q8 : l8 = true := hall 8 (by omega)
      clear hall; obtain ⟨S9, e9, c9_0, c9_1⟩ := (H9.out q9)
      subst e9; obtain ⟨s8, n8, e8, c8_0, c8_1, c8_2, c8_3⟩ := (H8.out q8)
      subst e8; have f0 : x.cell? ⟨S9, 0, none⟩ = some (.string ⟨#[]⟩) := c9_1.cell 0
      have f1 : x.cell? ⟨S9, 1, none⟩ = some (.int .i64 0) := c9_1.cell 1
      have f2 : x.cell? ⟨S9, 2, none⟩ = some (.slice none 0 0) := c9_1.cell 2
      have z0 := c9_1.frozen 0; have z1 := c9_1.frozen 1; have z2 := c9_1.frozen 2; refine tail_any (fun a x => ∃ (t3 t6 t7 t8 t9 t10 t11 t12 t13 t14 : Value), a = ⟨(.pointer (some ⟨b, 0, none⟩) :: undef :: .pointer (some ⟨w.heap.size, 0, none⟩) :: t3 :: undef :: undef :: t6 :: t7 :: t8 :: t9 :: t10 :: t11 :: t12 :: t13 :: t14 :: undef :: undef :: undef :: undef :: undef :: undef :: undef :: undef :: undef :: undef :: undef :: undef :: undef :: undef :: undef :: undef :: undef :: undef :: undef :: undef :: undef :: undef :: undef :: undef :: undef :: undef :: undef :: undef :: undef :: undef :: undef :: []).toArray, []⟩ ∧ ∃ (S : Nat) (nm : ByteArray) (v1 : Int), t3 = .pointer (some ⟨S, 0, none⟩) ∧ nm.size ≤ 1000 ∧ 1 ≤ v1 ∧ v1 ≤ 6 ∧ Tt.code nm.data.toList = true ∧ wa.heap.size ≤ S ∧ Blk S #[.string nm, .int .i64 v1, .slice none 0 0] 26 x ∧ Sofar b wa x) ?_ fun QQ hQ => ?_
      · intro a x hpost; obtain ⟨t3, hpost⟩ := hpost
        obtain ⟨t6, hpost⟩ := hpost; obtain ⟨t7, hpost⟩ := hpost; obtain ⟨t8, hpost⟩ := hpost; obtain ⟨t9, hpost⟩ := hpost; obtain ⟨t10, hpost⟩ := hpost; obtain ⟨t11, hpost⟩ := hpost; obtain ⟨t12, hpost⟩ := hpost; obtain ⟨t13, hpost⟩ := hpost; obtain ⟨t14, hpost⟩ := hpost; obtain ⟨ha_, hpost⟩ := hpost; subst ha_; obtain ⟨S, nm, v1, rfl, p1, p2, p3, p0, p4, p5, p6⟩ := hpost; go_wp2_with fail
        go_meet
        exact ⟨_, _, _, rfl, p1, p2, p3, Lib.hid p0, Lib.hid (by have := HR0.out.lt; omega), Lib.hid p5, Lib.hid (p6.blk HR0.out hRb), Lib.hid p6.dice, Lib.hid (but_then HK0.out p6.but HK0.out.size)⟩
      have hQQ := Lib.hid hQ; clear hQ; simp only [List.drop_succ_cons, List.drop_zero]
      go_wp2_with fail
      exact hQQ.out _ _ ⟨_, _, _, _, _, _, _, _, _, _, rfl, _, _, _, rfl, c8_0, c8_1, c8_2, c8_3, c9_0, ((c9_1.set 0 _).set 1 _).set 2 _, ((HS.out.set c9_0 (by omega) 0 _).set c9_0 (by omega) 1 _).set c9_0 (by omega) 2 _⟩
  case rest =>
    clear HR0 HK0 HD0; obtain ⟨S, nm, v1, rfl, hn, hv0, hv1, HCO, hRS, HB, HR, HD, HK⟩ := hcut; obtain ⟨i0, hi, hz0, hz1, hz2⟩ := info_parts infoEv
    have hSb : S ≠ b := by have := hRS.out; omega
    have hbS : b < S := by have := hRS.out; omega
    have hRS2 : w.heap.size ≠ S := by have := hRS.out; omega
    have hRS3 : w.heap.size ≤ S := by have := hRS.out; omega
    go_wp2_with fail
    refine (next_any b 5 _ HD.out (by omega) (by omega)).mono ?_
    rintro e w1 ⟨n, rfl, h0, h1, -, hd1, ho1⟩; have h1 := h1 (by omega)
    have HB1 := Lib.hid (HB.out.only ho1 hSb)
    have HR1 := Lib.hid (HR.out.only ho1 hRb)
    have HK1 := Lib.hid (but_only HK.out ho1)
    have HD1 := Lib.hid hd1; clear HB HR HK HD hd1 ho1; go_wp2_with fail
    go_loopw [4] (fun iv wr => ∃ (k : Int) (pu : Option Addr) (cu : Nat) (ts : List (Ev × Value × Value)), iv = .int .i64 k ∧ 0 ≤ k ∧ k ≤ n ∧ (ts.length : Int) = k ∧ Hid (Blk S #[.string nm, .int .i64 v1, .slice pu ts.length cu] 26 wr) ∧ Hid (Blk w.heap.size #[.string ⟨#[]⟩, .int .i64 0, .slice none 0 0] 26 wr) ∧ Hid (RowE w.heap.size wr (.slice pu ts.length cu) ts) ∧ Hid (Dice b wr) ∧ Hid (But b w.heap.size w wr) ∧ Hid ((∀ t ∈ ts, SerG t.1.days) ∧ ∀ (i : Nat) (t : Ev × Value × Value), ts[i]? = some t → UidK i t.1.uid ∧ checkV t.1 v1 = 0)) (fun iv _ => (n - intOf iv).toNat)
    case atStart => exact ⟨0, none, 0, [], rfl, by omega, by omega, rfl, HB1, HR1, Lib.hid (RowE.nil _ _), HD1, HK1, Lib.hid ⟨fun t h => (by cases h), fun i t h => (by simp at h)⟩⟩
    case round =>
      clear HB1 HR1 HD1 HK1; obtain ⟨k, pu, cu, ts, rfl, k0, k1, hl, HB, HR, HE, HD0, HK, HA⟩ := hrel; have hbB : b < wr.heap.size := HD0.out.lt
      by_cases hlt : k < n
      · go_wp2_with fail
        refine wp_region_tail 21 (by kernel_rfl) (fun listed a x => ∃ (l0 l1 l2 l3 l4 l5 l6 l7 l8 l9 l10 l11 l12 l13 l14 l15 l16 l17 l18 l19 l20 : Bool) (t22 t23 t24 t25 t26 t27 t28 t29 t30 t31 t32 t33 t34 t35 t36 t37 t38 t39 t40 t41 t42 : Value), listed = #[l0, l1, l2, l3, l4, l5, l6, l7, l8, l9, l10, l11, l12, l13, l14, l15, l16, l17, l18, l19, l20, false, false, false] ∧ a = ⟨(.pointer (some ⟨b, 0, none⟩) :: undef :: .pointer (some ⟨w.heap.size, 0, none⟩) :: .pointer (some ⟨S, 0, none⟩) :: .int .i64 k :: .int .i64 n :: u6 :: u7 :: u8 :: u9 :: u10 :: u11 :: u12 :: u13 :: u14 :: .pointer (some ⟨b, 0, none⟩) :: .int .i64 n :: .int .i64 k :: .int .i64 n :: .bool true :: u20 :: u21 :: t22 :: t23 :: t24 :: t25 :: t26 :: t27 :: t28 :: t29 :: t30 :: t31 :: t32 :: t33 :: t34 :: t35 :: t36 :: t37 :: t38 :: t39 :: t40 :: t41 :: t42 :: u43 :: u44 :: u45 :: []).toArray, []⟩ ∧ Hid (l0 = true → t22 = .pointer (some ⟨S, 2, none⟩)) ∧ Hid (l1 = true → t23 = .slice pu ts.length cu) ∧ Hid (l2 = true → t24 = .pointer (some ⟨b, 0, none⟩)) ∧ Hid (l3 = true → t25 = .int .i64 k) ∧ Hid (l4 = true → ∃ (n : Int), t26 = .int .i64 n ∧ 49 ≤ n ∧ n ≤ 60 ∧ Hid (n = 49 + k)) ∧ Hid (l5 = true → ∃ (c : UInt8), t27 = .int .u8 c.toNat ∧ Hid ((c.toNat : Int) = 49 + k)) ∧ Hid (l6 = true → l7 = false → ∃ (c : UInt8) (g : Nat), t28 = .slice (some ⟨g, 0, none⟩) 1 1 ∧ wr.heap.size ≤ g ∧ Blk g #[.int .u8 c.toNat] 5 x ∧ Hid ((c.toNat : Int) = 49 + k)) ∧ Hid (l7 = true → ∃ (s : ByteArray), t29 = .string s ∧ s.size ≤ 1 ∧ ∃ c : UInt8, s.data.toList = [c] ∧ Hid ((c.toNat : Int) = 49 + k)) ∧ Hid (l8 = true → ∃ (s : ByteArray), t30 = .string s ∧ s.size ≤ 2 ∧ ∃ c : UInt8, s.data.toList = [99, c] ∧ Hid ((c.toNat : Int) = 49 + k)) ∧ Hid (l9 = true → ∃ (s : ByteArray), t31 = .string s ∧ s.size ≤ 3 ∧ ∃ c : UInt8, s.data.toList = [99, c, 64] ∧ Hid ((c.toNat : Int) = 49 + k)) ∧ Hid (l10 = true → t32 = .pointer (some ⟨b, 0, none⟩)) ∧ Hid (l11 = true → ∃ (n : Int), t33 = .int .i64 n ∧ 0 ≤ n ∧ n ≤ 8) ∧ Hid (l12 = true → ∃ (n : Int), t34 = .int .i64 n ∧ 49 ≤ n ∧ n ≤ 57) ∧ Hid (l13 = true → ∃ (c : UInt8), t35 = .int .u8 c.toNat ∧ 49 ≤ c.toNat ∧ c.toNat ≤ 57) ∧ Hid (l14 = true → l15 = false → ∃ (c : UInt8) (g : Nat), t36 = .slice (some ⟨g, 0, none⟩) 1 1 ∧ wr.heap.size ≤ g ∧ Blk g #[.int .u8 c.toNat] 5 x ∧ 49 ≤ c.toNat ∧ c.toNat ≤ 57) ∧ Hid (l15 = true → ∃ (s : ByteArray), t37 = .string s ∧ s.size ≤ 1 ∧ ∃ c : UInt8, s.data.toList = [c] ∧ 49 ≤ c.toNat ∧ c.toNat ≤ 57) ∧ Hid (l16 = true → ∃ (s : ByteArray), t38 = .string s ∧ s.size ≤ 4 ∧ UidK k s) ∧ Hid (l17 = true → t39 = .pointer (some ⟨S, 1, none⟩)) ∧ Hid (l18 = true → t40 = .int .i64 v1) ∧ Hid (l19 = true → l20 = false → ∃ (ev : Ev) (pv : Option Addr) (cv : Nat) (pw : Option Addr) (cw : Nat), t41 = evVal ev (.slice pv ev.days.ex.length cv) (.slice pw ev.days.xt.length cw) ∧ EvG ev ∧ SerG ev.days ∧ RowI wr.heap.size x (.slice pv ev.days.ex.length cv) ev.days.ex ∧ RowI wr.heap.size x (.slice pw ev.days.xt.length cw) ev.days.xt ∧ UidK k ev.uid ∧ checkV ev v1 = 0) ∧ Hid (l20 = true → ∃ (ev : Ev) (pv : Option Addr) (cv : Nat) (pw : Option Addr) (cw : Nat) (g : Nat), t42 = .slice (some ⟨g, 0, none⟩) 1 1 ∧ wr.heap.size ≤ g ∧ Blk g (evCells ev (.slice pv ev.days.ex.length cv) (.slice pw ev.days.xt.length cw)) 82 x ∧ EvG ev ∧ SerG ev.days ∧ RowI wr.heap.size x (.slice pv ev.days.ex.length cv) ev.days.ex ∧ RowI wr.heap.size x (.slice pw ev.days.xt.length cw) ev.days.xt ∧ UidK k ev.uid ∧ checkV ev v1 = 0) ∧ Hid (Sofar b wr x)) (by decide) (by kernel_rfl) (by kernel_rfl) ?_ ?_ ?_ ?_
        · exact ⟨false, false, false, false, false, false, false, false, false, false, false, false, false, false, false, false, false, false, false, false, false, _, _, _, _, _, _, _, _, _, _, _, _, _, _, _, _, _, _, _, _, _, rfl, rfl, Lib.hid (fun h => by cases h), Lib.hid (fun h => by cases h), Lib.hid (fun h => by cases h), Lib.hid (fun h => by cases h), Lib.hid (fun h => by cases h), Lib.hid (fun h => by cases h), Lib.hid (fun h => by cases h), Lib.hid (fun h => by cases h), Lib.hid (fun h => by cases h), Lib.hid (fun h => by cases h), Lib.hid (fun h => by cases h), Lib.hid (fun h => by cases h), Lib.hid (fun h => by cases h), Lib.hid (fun h => by cases h), Lib.hid (fun h => by cases h), Lib.hid (fun h => by cases h), Lib.hid (fun h => by cases h), Lib.hid (fun h => by cases h), Lib.hid (fun h => by cases h), Lib.hid (fun h => by cases h), Lib.hid (fun h => by cases h), Lib.hid (Sofar.start HD0.out)⟩
        · intro listed a x hj; obtain ⟨l0, hj⟩ := hj
          obtain ⟨l1, hj⟩ := hj; obtain ⟨l2, hj⟩ := hj; obtain ⟨l3, hj⟩ := hj; obtain ⟨l4, hj⟩ := hj; obtain ⟨l5, hj⟩ := hj; obtain ⟨l6, hj⟩ := hj; obtain ⟨l7, hj⟩ := hj; obtain ⟨l8, hj⟩ := hj; obtain ⟨l9, hj⟩ := hj; obtain ⟨l10, hj⟩ := hj; obtain ⟨l11, hj⟩ := hj; obtain ⟨l12, hj⟩ := hj; obtain ⟨l13, hj⟩ := hj; obtain ⟨l14, hj⟩ := hj; obtain ⟨l15, hj⟩ := hj; obtain ⟨l16, hj⟩ := hj; obtain ⟨l17, hj⟩ := hj; obtain ⟨l18, hj⟩ := hj; obtain ⟨l19, hj⟩ := hj; obtain ⟨l20, hj⟩ := hj; obtain ⟨t22, hj⟩ := hj; obtain ⟨t23, hj⟩ := hj; obtain ⟨t24, hj⟩ := hj; obtain ⟨t25, hj⟩ := hj; obtain ⟨t26, hj⟩ := hj; obtain ⟨t27, hj⟩ := hj; obtain ⟨t28, hj⟩ := hj; obtain ⟨t29, hj⟩ := hj; obtain ⟨t30, hj⟩ := hj; obtain ⟨t31, hj⟩ := hj; obtain ⟨t32, hj⟩ := hj; obtain ⟨t33, hj⟩ := hj; obtain ⟨t34, hj⟩ := hj; obtain ⟨t35, hj⟩ := hj; obtain ⟨t36, hj⟩ := hj; obtain ⟨t37, hj⟩ := hj; obtain ⟨t38, hj⟩ := hj; obtain ⟨t39, hj⟩ := hj; obtain ⟨t40, hj⟩ := hj; obtain ⟨t41, hj⟩ := hj; obtain ⟨t42, hj⟩ := hj; obtain ⟨h1, -⟩ := hj; subst h1; exact ⟨rfl, fun k h1 h2 => by (have h2 : k < 24 := h2); rcases (show k = 21 ∨ k = 22 ∨ k = 23 by omega) with rfl | rfl | rfl <;> rfl⟩
        · intro listed a x i hj hlt hu haf; obtain ⟨l0, hj⟩ := hj
          obtain ⟨l1, hj⟩ := hj; obtain ⟨l2, hj⟩ := hj; obtain ⟨l3, hj⟩ := hj; obtain ⟨l4, hj⟩ := hj; obtain ⟨l5, hj⟩ := hj; obtain ⟨l6, hj⟩ := hj; obtain ⟨l7, hj⟩ := hj; obtain ⟨l8, hj⟩ := hj; obtain ⟨l9, hj⟩ := hj; obtain ⟨l10, hj⟩ := hj; obtain ⟨l11, hj⟩ := hj; obtain ⟨l12, hj⟩ := hj; obtain ⟨l13, hj⟩ := hj; obtain ⟨l14, hj⟩ := hj; obtain ⟨l15, hj⟩ := hj; obtain ⟨l16, hj⟩ := hj; obtain ⟨l17, hj⟩ := hj; obtain ⟨l18, hj⟩ := hj; obtain ⟨l19, hj⟩ := hj; obtain ⟨l20, hj⟩ := hj; obtain ⟨t22, hj⟩ := hj; obtain ⟨t23, hj⟩ := hj; obtain ⟨t24, hj⟩ := hj; obtain ⟨t25, hj⟩ := hj; obtain ⟨t26, hj⟩ := hj; obtain ⟨t27, hj⟩ := hj; obtain ⟨t28, hj⟩ := hj; obtain ⟨t29, hj⟩ := hj; obtain ⟨t30, hj⟩ := hj; obtain ⟨t31, hj⟩ := hj; obtain ⟨t32, hj⟩ := hj; obtain ⟨t33, hj⟩ := hj; obtain ⟨t34, hj⟩ := hj; obtain ⟨t35, hj⟩ := hj; obtain ⟨t36, hj⟩ := hj; obtain ⟨t37, hj⟩ := hj; obtain ⟨t38, hj⟩ := hj; obtain ⟨t39, hj⟩ := hj; obtain ⟨t40, hj⟩ := hj; obtain ⟨t41, hj⟩ := hj; obtain ⟨t42, hj⟩ := hj; obtain ⟨hl_, hj⟩ := hj; obtain ⟨ha_, hj⟩ := hj; obtain ⟨H0, hj⟩ := hj; obtain ⟨H1, hj⟩ := hj; obtain ⟨H2, hj⟩ := hj; obtain ⟨H3, hj⟩ := hj; obtain ⟨H4, hj⟩ := hj; obtain ⟨H5, hj⟩ := hj; obtain ⟨H6, hj⟩ := hj; obtain ⟨H7, hj⟩ := hj; obtain ⟨H8, hj⟩ := hj; obtain ⟨H9, hj⟩ := hj; obtain ⟨H10, hj⟩ := hj; obtain ⟨H11, hj⟩ := hj; obtain ⟨H12, hj⟩ := hj; obtain ⟨H13, hj⟩ := hj; obtain ⟨H14, hj⟩ := hj; obtain ⟨H15, hj⟩ := hj; obtain ⟨H16, hj⟩ := hj; obtain ⟨H17, hj⟩ := hj; obtain ⟨H18, hj⟩ := hj; obtain ⟨H19, hj⟩ := hj; obtain ⟨H20, hj⟩ := hj; have HS := hj; clear hj; subst hl_; subst ha_; rcases (show ∀ i : Nat, i < 21 → (i = 0 ∨ i = 1 ∨ i = 2 ∨ i = 3 ∨ i = 4 ∨ i = 5 ∨ i = 6 ∨ i = 7 ∨ i = 8 ∨ i = 9 ∨ i = 10 ∨ i = 11 ∨ i = 12 ∨ i = 13 ∨ i = 14 ∨ i = 15 ∨ i = 16 ∨ i = 17 ∨ i = 18 ∨ i = 19 ∨ i = 20) by decide) i hlt with rfl | rfl | rfl | rfl | rfl | rfl | rfl | rfl | rfl | rfl | rfl | rfl | rfl | rfl | rfl | rfl | rfl | rfl | rfl | rfl | rfl
          · have haf := haf _ rfl; clear haf
            have hu : l0 = false := hu
            refine wpOp_of_list_any rfl fun QQ hQ => ?_
            have hQQ := Lib.hid hQ; clear hQ; simp only [List.getElem_toArray, List.getElem_cons_zero]
            go_wp2_with fail
            exact hQQ.out _ _ ⟨true, l1, l2, l3, l4, l5, l6, l7, l8, l9, l10, l11, l12, l13, l14, l15, l16, l17, l18, l19, l20, _, _, _, _, _, _, _, _, _, _, _, _, _, _, _, _, _, _, _, _, _, rfl, rfl, Lib.hid (fun _ => rfl), H1, H2, H3, H4, H5, H6, H7, H8, H9, H10, H11, H12, H13, H14, H15, H16, H17, H18, H19, H20, HS⟩
          · have haf := haf _ rfl; have q0 : l0 = true := haf ⟨0, Go.Ground.data⟩ (by simp) rfl
            clear haf; have hu : l1 = false := hu
            have e0 := (H0.out q0)
            subst e0; clear H0; have hc : x.cell? ⟨S, 2, none⟩ = some (.slice pu ts.length cu) := (HS.out.blk HB.out hSb).cell 2
            refine wpOp_of_list_any rfl fun QQ hQ => ?_
            have hQQ := Lib.hid hQ; clear hQ; simp only [List.getElem_toArray, List.getElem_cons_zero, List.getElem_cons_succ]
            go_wp2_with fail
            exact hQQ.out _ _ ⟨l0, true, l2, l3, l4, l5, l6, l7, l8, l9, l10, l11, l12, l13, l14, l15, l16, l17, l18, l19, l20, _, _, _, _, _, _, _, _, _, _, _, _, _, _, _, _, _, _, _, _, _, rfl, rfl, Lib.hid (fun _ => rfl), Lib.hid (fun _ => rfl), H2, H3, H4, H5, H6, H7, H8, H9, H10, H11, H12, H13, H14, H15, H16, H17, H18, H19, H20, HS⟩
          · have haf := haf _ rfl; clear haf
            have hu : l2 = false := hu
            refine wpOp_of_list_any rfl fun QQ hQ => ?_
            have hQQ := Lib.hid hQ; clear hQ; simp only [List.getElem_toArray, List.getElem_cons_zero, List.getElem_cons_succ]
            go_wp2_with fail
            exact hQQ.out _ _ ⟨l0, l1, true, l3, l4, l5, l6, l7, l8, l9, l10, l11, l12, l13, l14, l15, l16, l17, l18, l19, l20, _, _, _, _, _, _, _, _, _, _, _, _, _, _, _, _, _, _, _, _, _, rfl, rfl, H0, H1, Lib.hid (fun _ => rfl), H3, H4, H5, H6, H7, H8, H9, H10, H11, H12, H13, H14, H15, H16, H17, H18, H19, H20, HS⟩
          · have haf := haf _ rfl; clear haf
            have hu : l3 = false := hu
            refine wpOp_of_list_any rfl fun QQ hQ => ?_
            have hQQ := Lib.hid hQ; clear hQ; simp only [List.getElem_toArray, List.getElem_cons_zero, List.getElem_cons_succ]
            go_wp2_with fail
            exact hQQ.out _ _ ⟨l0, l1, l2, true, l4, l5, l6, l7, l8, l9, l10, l11, l12, l13, l14, l15, l16, l17, l18, l19, l20, _, _, _, _, _, _, _, _, _, _, _, _, _, _, _, _, _, _, _, _, _, rfl, rfl, H0, H1, H2, Lib.hid (fun _ => rfl), H4, H5, H6, H7, H8, H9, H10, H11, H12, H13, H14, H15, H16, H17, H18, H19, H20, HS⟩
          · have haf := haf _ rfl; have q3 : l3 = true := haf ⟨3, Go.Ground.data⟩ (by simp) rfl
            clear haf; have hu : l4 = false := hu
            have e3 := (H3.out q3)
            subst e3; clear H3; refine wpOp_of_list_any rfl fun QQ hQ => ?_
            have hQQ := Lib.hid hQ; clear hQ; simp only [List.getElem_toArray, List.getElem_cons_zero, List.getElem_cons_succ]
            go_wp2_with fail
            exact hQQ.out _ _ ⟨l0, l1, l2, l3, true, l5, l6, l7, l8, l9, l10, l11, l12, l13, l14, l15, l16, l17, l18, l19, l20, _, _, _, _, _, _, _, _, _, _, _, _, _, _, _, _, _, _, _, _, _, rfl, rfl, H0, H1, H2, Lib.hid (fun _ => rfl), Lib.hid (fun _ => ⟨_, rfl, by omega, by omega, Lib.hid (by omega)⟩), H5, H6, H7, H8, H9, H10, H11, H12, H13, H14, H15, H16, H17, H18, H19, H20, HS⟩
          · have haf := haf _ rfl; have q4 : l4 = true := haf ⟨4, Go.Ground.data⟩ (by simp) rfl
            clear haf; have hu : l5 = false := hu
            obtain ⟨n4, e4, c4_0, c4_1, c4_2⟩ := (H4.out q4)
            subst e4; clear H4; refine wpOp_of_list_any rfl fun QQ hQ => ?_
            have hQQ := Lib.hid hQ; clear hQ; simp only [List.getElem_toArray, List.getElem_cons_zero, List.getElem_cons_succ]
            go_wp2_with fail
            exact hQQ.out _ _ ⟨l0, l1, l2, l3, l4, true, l6, l7, l8, l9, l10, l11, l12, l13, l14, l15, l16, l17, l18, l19, l20, _, _, _, _, _, _, _, _, _, _, _, _, _, _, _, _, _, _, _, _, _, rfl, rfl, H0, H1, H2, H3, Lib.hid (fun _ => ⟨n4, rfl, c4_0, c4_1, c4_2⟩), Lib.hid (fun _ => ⟨_, congrArg (Value.int .u8) (byte_of _ (by omega) (by omega)), Lib.hid (by have h := byte_of n4 (by omega) (by omega); have := c4_2.out; omega)⟩), H6, H7, H8, H9, H10, H11, H12, H13, H14, H15, H16, H17, H18, H19, H20, HS⟩
          · have haf := haf _ rfl; have q5 : l5 = true := haf ⟨5, Go.Ground.data⟩ (by simp) rfl
            clear haf; have hu : l6 = false := hu
            obtain ⟨c5, e5, c5_0⟩ := (H5.out q5)
            subst e5; clear H5; refine wpOp_of_list_any rfl fun QQ hQ => ?_
            have hQQ := Lib.hid hQ; clear hQ; simp only [List.getElem_toArray, List.getElem_cons_zero, List.getElem_cons_succ]
            go_wp2_with fail
            exact hQQ.out _ _ ⟨l0, l1, l2, l3, l4, l5, true, l7, l8, l9, l10, l11, l12, l13, l14, l15, l16, l17, l18, l19, l20, _, _, _, _, _, _, _, _, _, _, _, _, _, _, _, _, _, _, _, _, _, rfl, rfl, H0, H1, H2, H3, H4, Lib.hid (fun _ => ⟨c5, rfl, c5_0⟩), Lib.hid (fun _ _ => ⟨_, _, rfl, HS.out.but.size, Blk.new x _ _, c5_0⟩), H7, H8, H9, H10, H11, H12, H13, Lib.hid (fun h h2 => (by obtain ⟨c, g, e, c0, c1, c2⟩ := H14.out h h2; exact ⟨c, g, e, c0, ((Kept.alloc _ x _) _ _ _ c0 c1), c2⟩)), H15, H16, H17, H18, Lib.hid (fun h h2 => (by obtain ⟨ev, pv, cv, pw, cw, e, c0, c1, c2, c3, c4, c5⟩ := H19.out h h2; exact ⟨ev, pv, cv, pw, cw, e, c0, c1, (row_kept c2 (Kept.alloc _ x _)), (row_kept c3 (Kept.alloc _ x _)), c4, c5⟩)), Lib.hid (fun h => (by obtain ⟨ev, pv, cv, pw, cw, g, e, c0, c1, c2, c3, c4, c5, c6, c7⟩ := H20.out h; exact ⟨ev, pv, cv, pw, cw, g, e, c0, ((Kept.alloc _ x _) _ _ _ c0 c1), c2, c3, (row_kept c4 (Kept.alloc _ x _)), (row_kept c5 (Kept.alloc _ x _)), c6, c7⟩)), Lib.hid (HS.out.alloc _)⟩
          · have haf := haf _ rfl; have q6 : l6 = true := haf ⟨6, Go.Ground.data⟩ (by simp) rfl
            clear haf; have hu : l7 = false := hu
            obtain ⟨c6, g6, e6, c6_0, c6_1, c6_2⟩ := (H6.out q6 hu)
            subst e6; clear H6; have hcv := one_byte_blk c6_1; refine wpOp_of_list_any rfl fun QQ hQ => ?_
            have hQQ := Lib.hid hQ; clear hQ; simp only [List.getElem_toArray, List.getElem_cons_zero, List.getElem_cons_succ]
            go_wp2_with fail
            exact hQQ.out _ _ ⟨l0, l1, l2, l3, l4, l5, l6, true, l8, l9, l10, l11, l12, l13, l14, l15, l16, l17, l18, l19, l20, _, _, _, _, _, _, _, _, _, _, _, _, _, _, _, _, _, _, _, _, _, rfl, rfl, H0, H1, H2, H3, H4, H5, Lib.hid (fun _ h => by cases h), Lib.hid (fun _ => ⟨_, rfl, Nat.le_refl _, _, rfl, c6_2⟩), H8, H9, H10, H11, H12, H13, H14, H15, H16, H17, H18, H19, H20, HS⟩
          · have haf := haf _ rfl; have q7 : l7 = true := haf ⟨7, Go.Ground.data⟩ (by simp) rfl
            clear haf; have hu : l8 = false := hu
            obtain ⟨s7, e7, c7_0, c7_1⟩ := (H7.out q7)
            subst e7; clear H7; refine wpOp_of_list_any rfl fun QQ hQ => ?_
            have hQQ := Lib.hid hQ; clear hQ; simp only [List.getElem_toArray, List.getElem_cons_zero, List.getElem_cons_succ]
            go_wp2_with fail
            exact hQQ.out _ _ ⟨l0, l1, l2, l3, l4, l5, l6, l7, true, l9, l10, l11, l12, l13, l14, l15, l16, l17, l18, l19, l20, _, _, _, _, _, _, _, _, _, _, _, _, _, _, _, _, _, _, _, _, _, rfl, rfl, H0, H1, H2, H3, H4, H5, H6, Lib.hid (fun _ => ⟨s7, rfl, c7_0, c7_1⟩), Lib.hid (fun _ => ⟨_, rfl, by (have e1 : (⟨#[99]⟩ : ByteArray).size = 1 := rfl); (have e2 : (⟨#[64]⟩ : ByteArray).size = 1 := rfl); rw [ByteArray.size_append]; omega, by obtain ⟨c, h1, h2⟩ := c7_1; exact ⟨c, by rw [ByteArray.data_append, Array.toList_append, h1]; rfl, h2⟩⟩), H9, H10, H11, H12, H13, H14, H15, H16, H17, H18, H19, H20, HS⟩
          · have haf := haf _ rfl; have q8 : l8 = true := haf ⟨8, Go.Ground.data⟩ (by simp) rfl
            clear haf; have hu : l9 = false := hu
            obtain ⟨s8, e8, c8_0, c8_1⟩ := (H8.out q8)
            subst e8; clear H8; refine wpOp_of_list_any rfl fun QQ hQ => ?_
            have hQQ := Lib.hid hQ; clear hQ; simp only [List.getElem_toArray, List.getElem_cons_zero, List.getElem_cons_succ]
            go_wp2_with fail
            exact hQQ.out _ _ ⟨l0, l1, l2, l3, l4, l5, l6, l7, l8, true, l10, l11, l12, l13, l14, l15, l16, l17, l18, l19, l20, _, _, _, _, _, _, _, _, _, _, _, _, _, _, _, _, _, _, _, _, _, rfl, rfl, H0, H1, H2, H3, H4, H5, H6, H7, Lib.hid (fun _ => ⟨s8, rfl, c8_0, c8_1⟩), Lib.hid (fun _ => ⟨_, rfl, by (have e1 : (⟨#[99]⟩ : ByteArray).size = 1 := rfl); (have e2 : (⟨#[64]⟩ : ByteArray).size = 1 := rfl); rw [ByteArray.size_append]; omega, by obtain ⟨c, h1, h2⟩ := c8_1; exact ⟨c, by rw [ByteArray.data_append, Array.toList_append, h1]; rfl, h2⟩⟩), H10, H11, H12, H13, H14, H15, H16, H17, H18, H19, H20, HS⟩
          · have haf := haf _ rfl; clear haf
            have hu : l10 = false := hu
            refine wpOp_of_list_any rfl fun QQ hQ => ?_
            have hQQ := Lib.hid hQ; clear hQ; simp only [List.getElem_toArray, List.getElem_cons_zero, List.getElem_cons_succ]
            go_wp2_with fail
            exact hQQ.out _ _ ⟨l0, l1, l2, l3, l4, l5, l6, l7, l8, l9, true, l11, l12, l13, l14, l15, l16, l17, l18, l19, l20, _, _, _, _, _, _, _, _, _, _, _, _, _, _, _, _, _, _, _, _, _, rfl, rfl, H0, H1, H2, H3, H4, H5, H6, H7, H8, H9, Lib.hid (fun _ => rfl), H11, H12, H13, H14, H15, H16, H17, H18, H19, H20, HS⟩
          · have haf := haf _ rfl; have q10 : l10 = true := haf ⟨10, Go.Ground.data⟩ (by simp) rfl
            clear haf; have hu : l11 = false := hu
            have e10 := (H10.out q10)
            subst e10; clear H10; refine wpOp_of_list_any rfl fun QQ hQ => ?_
            have hQQ := Lib.hid hQ; clear hQ; simp only [List.getElem_toArray, List.getElem_cons_zero, List.getElem_cons_succ]
            go_wp2_with fail
            refine (next_any b 9 _ HS.out.dice (by omega) (by omega)).mono ?_
            rintro e x1 ⟨v, rfl, h0, h1, -, hd1, ho1⟩; have h1 := h1 (by omega)
            have hk := Kept.only ho1 hbB; have HS1 := Lib.hid (HS.out.only hd1 ho1)
            clear ho1 hd1; go_wp2_with fail
            exact hQQ.out _ _ ⟨l0, l1, l2, l3, l4, l5, l6, l7, l8, l9, l10, true, l12, l13, l14, l15, l16, l17, l18, l19, l20, _, _, _, _, _, _, _, _, _, _, _, _, _, _, _, _, _, _, _, _, _, rfl, rfl, H0, H1, H2, H3, H4, H5, Lib.hid (fun h h2 => (by obtain ⟨c, g, e, c0, c1, c2⟩ := H6.out h h2; exact ⟨c, g, e, c0, (hk _ _ _ c0 c1), c2⟩)), H7, H8, H9, Lib.hid (fun _ => rfl), Lib.hid (fun _ => ⟨_, rfl, by omega, by omega⟩), H12, H13, Lib.hid (fun h h2 => (by obtain ⟨c, g, e, c0, c1, c2⟩ := H14.out h h2; exact ⟨c, g, e, c0, (hk _ _ _ c0 c1), c2⟩)), H15, H16, H17, H18, Lib.hid (fun h h2 => (by obtain ⟨ev, pv, cv, pw, cw, e, c0, c1, c2, c3, c4, c5⟩ := H19.out h h2; exact ⟨ev, pv, cv, pw, cw, e, c0, c1, (row_kept c2 hk), (row_kept c3 hk), c4, c5⟩)), Lib.hid (fun h => (by obtain ⟨ev, pv, cv, pw, cw, g, e, c0, c1, c2, c3, c4, c5, c6, c7⟩ := H20.out h; exact ⟨ev, pv, cv, pw, cw, g, e, c0, (hk _ _ _ c0 c1), c2, c3, (row_kept c4 hk), (row_kept c5 hk), c6, c7⟩)), HS1⟩
          · have haf := haf _ rfl; have q11 : l11 = true := haf ⟨11, Go.Ground.data⟩ (by simp) rfl
            clear haf; have hu : l12 = false := hu
            obtain ⟨n11, e11, c11_0, c11_1⟩ := (H11.out q11)
            subst e11; clear H11; refine wpOp_of_list_any rfl fun QQ hQ => ?_
            have hQQ := Lib.hid hQ; clear hQ; simp only [List.getElem_toArray, List.getElem_cons_zero, List.getElem_cons_succ]
            go_wp2_with fail
            exact hQQ.out _ _ ⟨l0, l1, l2, l3, l4, l5, l6, l7, l8, l9, l10, l11, true, l13, l14, l15, l16, l17, l18, l19, l20, _, _, _, _, _, _, _, _, _, _, _, _, _, _, _, _, _, _, _, _, _, rfl, rfl, H0, H1, H2, H3, H4, H5, H6, H7, H8, H9, H10, Lib.hid (fun _ => ⟨n11, rfl, c11_0, c11_1⟩), Lib.hid (fun _ => ⟨_, rfl, by omega, by omega⟩), H13, H14, H15, H16, H17, H18, H19, H20, HS⟩
          · have haf := haf _ rfl; have q12 : l12 = true := haf ⟨12, Go.Ground.data⟩ (by simp) rfl
            clear haf; have hu : l13 = false := hu
            obtain ⟨n12, e12, c12_0, c12_1⟩ := (H12.out q12)
            subst e12; clear H12; refine wpOp_of_list_any rfl fun QQ hQ => ?_
            have hQQ := Lib.hid hQ; clear hQ; simp only [List.getElem_toArray, List.getElem_cons_zero, List.getElem_cons_succ]
            go_wp2_with fail
            exact hQQ.out _ _ ⟨l0, l1, l2, l3, l4, l5, l6, l7, l8, l9, l10, l11, l12, true, l14, l15, l16, l17, l18, l19, l20, _, _, _, _, _, _, _, _, _, _, _, _, _, _, _, _, _, _, _, _, _, rfl, rfl, H0, H1, H2, H3, H4, H5, H6, H7, H8, H9, H10, H11, Lib.hid (fun _ => ⟨n12, rfl, c12_0, c12_1⟩), Lib.hid (fun _ => ⟨_, congrArg (Value.int .u8) (byte_of _ (by omega) (by omega)), by have h := byte_of n12 (by omega) (by omega); omega⟩), H14, H15, H16, H17, H18, H19, H20, HS⟩
          · have haf := haf _ rfl; have q13 : l13 = true := haf ⟨13, Go.Ground.data⟩ (by simp) rfl
            clear haf; have hu : l14 = false := hu
            obtain ⟨c13, e13, c13_0⟩ := (H13.out q13)
            subst e13; clear H13; refine wpOp_of_list_any rfl fun QQ hQ => ?_
            have hQQ := Lib.hid hQ; clear hQ; simp only [List.getElem_toArray, List.getElem_cons_zero, List.getElem_cons_succ]
            go_wp2_with fail
            exact hQQ.out _ _ ⟨l0, l1, l2, l3, l4, l5, l6, l7, l8, l9, l10, l11, l12, l13, true, l15, l16, l17, l18, l19, l20, _, _, _, _, _, _, _, _, _, _, _, _, _, _, _, _, _, _, _, _, _, rfl, rfl, H0, H1, H2, H3, H4, H5, Lib.hid (fun h h2 => (by obtain ⟨c, g, e, c0, c1, c2⟩ := H6.out h h2; exact ⟨c, g, e, c0, ((Kept.alloc _ x _) _ _ _ c0 c1), c2⟩)), H7, H8, H9, H10, H11, H12, Lib.hid (fun _ => ⟨c13, rfl, c13_0⟩), Lib.hid (fun _ _ => ⟨_, _, rfl, HS.out.but.size, Blk.new x _ _, c13_0⟩), H15, H16, H17, H18, Lib.hid (fun h h2 => (by obtain ⟨ev, pv, cv, pw, cw, e, c0, c1, c2, c3, c4, c5⟩ := H19.out h h2; exact ⟨ev, pv, cv, pw, cw, e, c0, c1, (row_kept c2 (Kept.alloc _ x _)), (row_kept c3 (Kept.alloc _ x _)), c4, c5⟩)), Lib.hid (fun h => (by obtain ⟨ev, pv, cv, pw, cw, g, e, c0, c1, c2, c3, c4, c5, c6, c7⟩ := H20.out h; exact ⟨ev, pv, cv, pw, cw, g, e, c0, ((Kept.alloc _ x _) _ _ _ c0 c1), c2, c3, (row_kept c4 (Kept.alloc _ x _)), (row_kept c5 (Kept.alloc _ x _)), c6, c7⟩)), Lib.hid (HS.out.alloc _)⟩
          · have haf := haf _ rfl; have q14 : l14 = true := haf ⟨14, Go.Ground.data⟩ (by simp) rfl
            clear haf; have hu : l15 = false := hu
            obtain ⟨c14, g14, e14, c14_0, c14_1, c14_2⟩ := (H14.out q14 hu)
            subst e14; clear H14; have hcv := one_byte_blk c14_1; refine wpOp_of_list_any rfl fun QQ hQ => ?_
            have hQQ := Lib.hid hQ; clear hQ; simp only [List.getElem_toArray, List.getElem_cons_zero, List.getElem_cons_succ]
            go_wp2_with fail
            exact hQQ.out _ _ ⟨l0, l1, l2, l3, l4, l5, l6, l7, l8, l9, l10, l11, l12, l13, l14, true, l16, l17, l18, l19, l20, _, _, _, _, _, _, _, _, _, _, _, _, _, _, _, _, _, _, _, _, _, rfl, rfl, H0, H1, H2, H3, H4, H5, H6, H7, H8, H9, H10, H11, H12, H13, Lib.hid (fun _ h => by cases h), Lib.hid (fun _ => ⟨_, rfl, Nat.le_refl _, _, rfl, c14_2⟩), H16, H17, H18, H19, H20, HS⟩
          · have haf := haf _ rfl; have q9 : l9 = true := haf ⟨9, Go.Ground.data⟩ (by simp) rfl
            have q15 : l15 = true := haf ⟨15, Go.Ground.data⟩ (by simp) rfl
            clear haf; have hu : l16 = false := hu
            obtain ⟨s9, e9, c9_0, c9_1⟩ := (H9.out q9)
            subst e9; clear H9; obtain ⟨s15, e15, c15_0, c15_1⟩ := (H15.out q15)
            subst e15; clear H15; refine wpOp_of_list_any rfl fun QQ hQ => ?_
            have hQQ := Lib.hid hQ; clear hQ; simp only [List.getElem_toArray, List.getElem_cons_zero, List.getElem_cons_succ]
            go_wp2_with fail
            exact hQQ.out _ _ ⟨l0, l1, l2, l3, l4, l5, l6, l7, l8, l9, l10, l11, l12, l13, l14, l15, true, l17, l18, l19, l20, _, _, _, _, _, _, _, _, _, _, _, _, _, _, _, _, _, _, _, _, _, rfl, rfl, H0, H1, H2, H3, H4, H5, H6, H7, H8, Lib.hid (fun _ => ⟨s9, rfl, c9_0, c9_1⟩), H10, H11, H12, H13, H14, Lib.hid (fun _ => ⟨s15, rfl, c15_0, c15_1⟩), Lib.hid (fun _ => ⟨_, rfl, by (have e1 : (⟨#[99]⟩ : ByteArray).size = 1 := rfl); (have e2 : (⟨#[64]⟩ : ByteArray).size = 1 := rfl); rw [ByteArray.size_append]; omega, by obtain ⟨c, h1, h2⟩ := c9_1; obtain ⟨d, g1, g2, g3⟩ := c15_1; exact ⟨c, d, by rw [ByteArray.data_append, Array.toList_append, h1, g1]; rfl, h2.out, g2, g3⟩⟩), H17, H18, H19, H20, HS⟩
          · have haf := haf _ rfl; clear haf
            have hu : l17 = false := hu
            refine wpOp_of_list_any rfl fun QQ hQ => ?_
            have hQQ := Lib.hid hQ; clear hQ; simp only [List.getElem_toArray, List.getElem_cons_zero, List.getElem_cons_succ]
            go_wp2_with fail
            exact hQQ.out _ _ ⟨l0, l1, l2, l3, l4, l5, l6, l7, l8, l9, l10, l11, l12, l13, l14, l15, l16, true, l18, l19, l20, _, _, _, _, _, _, _, _, _, _, _, _, _, _, _, _, _, _, _, _, _, rfl, rfl, H0, H1, H2, H3, H4, H5, H6, H7, H8, H9, H10, H11, H12, H13, H14, H15, H16, Lib.hid (fun _ => rfl), H18, H19, H20, HS⟩
          · have haf := haf _ rfl; have q17 : l17 = true := haf ⟨17, Go.Ground.data⟩ (by simp) rfl
            clear haf; have hu : l18 = false := hu
            have e17 := (H17.out q17)
            subst e17; clear H17; have hc : x.cell? ⟨S, 1, none⟩ = some (.int .i64 v1) := (HS.out.blk HB.out hSb).cell 1
            refine wpOp_of_list_any rfl fun QQ hQ => ?_
            have hQQ := Lib.hid hQ; clear hQ; simp only [List.getElem_toArray, List.getElem_cons_zero, List.getElem_cons_succ]
            go_wp2_with fail
            exact hQQ.out _ _ ⟨l0, l1, l2, l3, l4, l5, l6, l7, l8, l9, l10, l11, l12, l13, l14, l15, l16, l17, true, l19, l20, _, _, _, _, _, _, _, _, _, _, _, _, _, _, _, _, _, _, _, _, _, rfl, rfl, H0, H1, H2, H3, H4, H5, H6, H7, H8, H9, H10, H11, H12, H13, H14, H15, H16, Lib.hid (fun _ => rfl), Lib.hid (fun _ => rfl), H19, H20, HS⟩
          · have haf := haf _ rfl; have q2 : l2 = true := haf ⟨2, Go.Ground.data⟩ (by simp) rfl
            have q16 : l16 = true := haf ⟨16, Go.Ground.data⟩ (by simp) rfl
            have q18 : l18 = true := haf ⟨18, Go.Ground.data⟩ (by simp) rfl
            clear haf; have hu : l19 = false := hu
            have e2 := (H2.out q2)
            subst e2; clear H2; obtain ⟨s16, e16, c16_0, c16_1⟩ := (H16.out q16)
            subst e16; clear H16; have e18 := (H18.out q18)
            subst e18; clear H18; refine wpOp_of_list_any rfl fun QQ hQ => ?_
            have hQQ := Lib.hid hQ; clear hQ; simp only [List.getElem_toArray, List.getElem_cons_zero, List.getElem_cons_succ]
            go_wp2_with fail
            refine (event78v b _ _ _ HS.out.dice (by omega) (by omega) (by omega)).mono ?_
            rintro e x1 ⟨ev, v, v2, rfl, hG, hu9, hck, hSG, hX, hY, hd1, ho1⟩; have HU1 := Lib.hid (show UidK k ev.uid from by rw [hu9]; exact c16_1)
            have HC1 := Lib.hid hck; clear hu9 hck; have hk := Kept.but ho1 hbB; have HS1 := Lib.hid (HS.out.then hd1 ho1)
            have hX : RowI wr.heap.size x1 v ev.days.ex := ownsRow_mono hX HS.out.but.size
            have hY : RowI wr.heap.size x1 v2 ev.days.xt := ownsRow_mono hY HS.out.but.size
            obtain ⟨pv, cv, hv⟩ := hX.slice
            obtain ⟨pw, cw, hw⟩ := hY.slice
            subst hv; subst hw; have HX1 := Lib.hid hX; have HY1 := Lib.hid hY; have HG1 := Lib.hid hG; have HF1 := Lib.hid hSG; clear ho1 hd1 hX hY hG hSG; go_wp2_with fail
            exact hQQ.out _ _ ⟨l0, l1, l2, l3, l4, l5, l6, l7, l8, l9, l10, l11, l12, l13, l14, l15, l16, l17, l18, true, l20, _, _, _, _, _, _, _, _, _, _, _, _, _, _, _, _, _, _, _, _, _, rfl, rfl, H0, H1, Lib.hid (fun _ => rfl), H3, H4, H5, Lib.hid (fun h h2 => (by obtain ⟨c, g, e, c0, c1, c2⟩ := H6.out h h2; exact ⟨c, g, e, c0, (hk _ _ _ c0 c1), c2⟩)), H7, H8, H9, H10, H11, H12, H13, Lib.hid (fun h h2 => (by obtain ⟨c, g, e, c0, c1, c2⟩ := H14.out h h2; exact ⟨c, g, e, c0, (hk _ _ _ c0 c1), c2⟩)), H15, Lib.hid (fun _ => ⟨s16, rfl, c16_0, c16_1⟩), H17, Lib.hid (fun _ => rfl), Lib.hid (fun _ _ => ⟨ev, pv, cv, pw, cw, rfl, HG1.out, HF1.out, HX1.out, HY1.out, HU1.out, HC1.out⟩), Lib.hid (fun h => (by obtain ⟨ev, pv, cv, pw, cw, g, e, c0, c1, c2, c3, c4, c5, c6, c7⟩ := H20.out h; exact ⟨ev, pv, cv, pw, cw, g, e, c0, (hk _ _ _ c0 c1), c2, c3, (row_kept c4 hk), (row_kept c5 hk), c6, c7⟩)), HS1⟩
          · have haf := haf _ rfl; have q19 : l19 = true := haf ⟨19, Go.Ground.data⟩ (by simp) rfl
            clear haf; have hu : l20 = false := hu
            obtain ⟨ev19, pv19, cv19, pw19, cw19, e19, c19_0, c19_1, c19_2, c19_3, c19_4, c19_5⟩ := (H19.out q19 hu)
            subst e19; clear H19; unfold evVal evCells
            have HG1 := Lib.hid c19_0; have HF1 := Lib.hid c19_1; have HX1 := Lib.hid c19_2; have HY1 := Lib.hid c19_3; have HU1 := Lib.hid c19_4; have HC1 := Lib.hid c19_5; clear c19_1 c19_4 c19_5; refine wpOp_of_list_any rfl fun QQ hQ => ?_
            have hQQ := Lib.hid hQ; clear hQ; simp only [List.getElem_toArray, List.getElem_cons_zero, List.getElem_cons_succ]
            go_wp2_with fail
            exact hQQ.out _ _ ⟨l0, l1, l2, l3, l4, l5, l6, l7, l8, l9, l10, l11, l12, l13, l14, l15, l16, l17, l18, l19, true, _, _, _, _, _, _, _, _, _, _, _, _, _, _, _, _, _, _, _, _, _, rfl, rfl, H0, H1, H2, H3, H4, H5, Lib.hid (fun h h2 => (by obtain ⟨c, g, e, c0, c1, c2⟩ := H6.out h h2; exact ⟨c, g, e, c0, ((Kept.alloc _ x _) _ _ _ c0 c1), c2⟩)), H7, H8, H9, H10, H11, H12, H13, Lib.hid (fun h h2 => (by obtain ⟨c, g, e, c0, c1, c2⟩ := H14.out h h2; exact ⟨c, g, e, c0, ((Kept.alloc _ x _) _ _ _ c0 c1), c2⟩)), H15, H16, H17, H18, Lib.hid (fun _ h => by cases h), Lib.hid (fun _ => ⟨ev19, pv19, cv19, pw19, cw19, _, rfl, HS.out.but.size, Blk.new x _ _, HG1.out, HF1.out, World.ownsRow.alloc HX1.out _, World.ownsRow.alloc HY1.out _, HU1.out, HC1.out⟩), Lib.hid (HS.out.alloc _)⟩
        · intro listed a x hj hall; obtain ⟨l0, hj⟩ := hj
          obtain ⟨l1, hj⟩ := hj; obtain ⟨l2, hj⟩ := hj; obtain ⟨l3, hj⟩ := hj; obtain ⟨l4, hj⟩ := hj; obtain ⟨l5, hj⟩ := hj; obtain ⟨l6, hj⟩ := hj; obtain ⟨l7, hj⟩ := hj; obtain ⟨l8, hj⟩ := hj; obtain ⟨l9, hj⟩ := hj; obtain ⟨l10, hj⟩ := hj; obtain ⟨l11, hj⟩ := hj; obtain ⟨l12, hj⟩ := hj; obtain ⟨l13, hj⟩ := hj; obtain ⟨l14, hj⟩ := hj; obtain ⟨l15, hj⟩ := hj; obtain ⟨l16, hj⟩ := hj; obtain ⟨l17, hj⟩ := hj; obtain ⟨l18, hj⟩ := hj; obtain ⟨l19, hj⟩ := hj; obtain ⟨l20, hj⟩ := hj; obtain ⟨t22, hj⟩ := hj; obtain ⟨t23, hj⟩ := hj; obtain ⟨t24, hj⟩ := hj; obtain ⟨t25, hj⟩ := hj; obtain ⟨t26, hj⟩ := hj; obtain ⟨t27, hj⟩ := hj; obtain ⟨t28, hj⟩ := hj; obtain ⟨t29, hj⟩ := hj; obtain ⟨t30, hj⟩ := hj; obtain ⟨t31, hj⟩ := hj; obtain ⟨t32, hj⟩ := hj; obtain ⟨t33, hj⟩ := hj; obtain ⟨t34, hj⟩ := hj; obtain ⟨t35, hj⟩ := hj; obtain ⟨t36, hj⟩ := hj; obtain ⟨t37, hj⟩ := hj; obtain ⟨t38, hj⟩ := hj; obtain ⟨t39, hj⟩ := hj; obtain ⟨t40, hj⟩ := hj; obtain ⟨t41, hj⟩ := hj; obtain ⟨t42, hj⟩ := hj; obtain ⟨hl_, hj⟩ := hj; obtain ⟨ha_, hj⟩ := hj; obtain ⟨H0, hj⟩ := hj; obtain ⟨H1, hj⟩ := hj; obtain ⟨H2, hj⟩ := hj; obtain ⟨H3, hj⟩ := hj; obtain ⟨H4, hj⟩ := hj; obtain ⟨H5, hj⟩ := hj; obtain ⟨H6, hj⟩ := hj; obtain ⟨H7, hj⟩ := hj; obtain ⟨H8, hj⟩ := hj; obtain ⟨H9, hj⟩ := hj; obtain ⟨H10, hj⟩ := hj; obtain ⟨H11, hj⟩ := hj; obtain ⟨H12, hj⟩ := hj; obtain ⟨H13, hj⟩ := hj; obtain ⟨H14, hj⟩ := hj; obtain ⟨H15, hj⟩ := hj; obtain ⟨H16, hj⟩ := hj; obtain ⟨H17, hj⟩ := hj; obtain ⟨H18, hj⟩ := hj; obtain ⟨H19, hj⟩ := hj; obtain ⟨H20, hj⟩ := hj; have HS := hj; clear hj; subst hl_; subst ha_; have q1 : l1 = true := hall 1 (by omega)
          have q20 : l20 = true := hall 20 (by omega)
          clear hall; have e1 := (H1.out q1)
          subst e1; obtain ⟨ev20, pv20, cv20, pw20, cw20, g20, e20, c20_0, c20_1, c20_2, c20_3, c20_4, c20_5, c20_6, c20_7⟩ := (H20.out q20)
          subst e20; have HE1 := HE.out.but hblt HS.out.but
          have HB1 := HS.out.blk HB.out hSb
          have HR1 := HS.out.blk HR.out hRb
          have HK1 := but_then HK.out HS.out.but HK.out.size
          have hsx := HK1.size; have HT1 : RefG w.heap.size x (ev20, (.slice pv20 ev20.days.ex.length cv20), (.slice pw20 ev20.days.xt.length cw20)) := ⟨c20_2, ownsRow_mono c20_4 HK.out.size, ownsRow_mono c20_5 HK.out.size⟩
          have HSG1 := Lib.hid (And.intro c20_3 (And.intro c20_6 c20_7))
          clear c20_2 c20_3 c20_4 c20_5 c20_6 c20_7; refine tail_any (fun a x => ∃ (t22 t23 t24 t25 t26 t27 t28 t29 t30 t31 t32 t33 t34 t35 t36 t37 t38 t39 t40 t41 t42 t43 t44 : Value), a = ⟨(.pointer (some ⟨b, 0, none⟩) :: undef :: .pointer (some ⟨w.heap.size, 0, none⟩) :: .pointer (some ⟨S, 0, none⟩) :: .int .i64 k :: .int .i64 n :: u6 :: u7 :: u8 :: u9 :: u10 :: u11 :: u12 :: u13 :: u14 :: .pointer (some ⟨b, 0, none⟩) :: .int .i64 n :: .int .i64 k :: .int .i64 n :: .bool true :: u20 :: u21 :: t22 :: t23 :: t24 :: t25 :: t26 :: t27 :: t28 :: t29 :: t30 :: t31 :: t32 :: t33 :: t34 :: t35 :: t36 :: t37 :: t38 :: t39 :: t40 :: t41 :: t42 :: t43 :: t44 :: u45 :: []).toArray, []⟩ ∧ ∃ (pu2 : Option Addr) (cu2 : Nat) (t : Ev × Value × Value), (SerG t.1.days ∧ UidK k t.1.uid ∧ checkV t.1 v1 = 0) ∧ Blk S #[.string nm, .int .i64 v1, .slice pu2 (ts.length + 1) cu2] 26 x ∧ Blk w.heap.size #[.string ⟨#[]⟩, .int .i64 0, .slice none 0 0] 26 x ∧ RowE w.heap.size x (.slice pu2 (ts.length + 1) cu2) (ts ++ [t]) ∧ Dice b x ∧ But b w.heap.size w x) ?_ fun QQ hQ => ?_
          · intro a x hpost; obtain ⟨t22, hpost⟩ := hpost
            obtain ⟨t23, hpost⟩ := hpost; obtain ⟨t24, hpost⟩ := hpost; obtain ⟨t25, hpost⟩ := hpost; obtain ⟨t26, hpost⟩ := hpost; obtain ⟨t27, hpost⟩ := hpost; obtain ⟨t28, hpost⟩ := hpost; obtain ⟨t29, hpost⟩ := hpost; obtain ⟨t30, hpost⟩ := hpost; obtain ⟨t31, hpost⟩ := hpost; obtain ⟨t32, hpost⟩ := hpost; obtain ⟨t33, hpost⟩ := hpost; obtain ⟨t34, hpost⟩ := hpost; obtain ⟨t35, hpost⟩ := hpost; obtain ⟨t36, hpost⟩ := hpost; obtain ⟨t37, hpost⟩ := hpost; obtain ⟨t38, hpost⟩ := hpost; obtain ⟨t39, hpost⟩ := hpost; obtain ⟨t40, hpost⟩ := hpost; obtain ⟨t41, hpost⟩ := hpost; obtain ⟨t42, hpost⟩ := hpost; obtain ⟨t43, hpost⟩ := hpost; obtain ⟨t44, hpost⟩ := hpost; obtain ⟨ha_, hpost⟩ := hpost; subst ha_; obtain ⟨pu2, cu2, t, p0, p1, p2, p3, p4, p5⟩ := hpost; go_wp2_with fail
            go_roundw
            case rel => exact ⟨k + 1, pu2, cu2, ts ++ [t], rfl, by omega, by omega, by simp; omega, Lib.hid (by simpa using p1), Lib.hid p2, Lib.hid (by simpa using p3), Lib.hid p4, Lib.hid p5, Lib.hid (snoc_all HA.out hl p0)⟩
            case measure => simp [intOf]; omega
          have hQQ := Lib.hid hQ; clear hQ; simp only [List.drop_succ_cons, List.drop_zero]
          go_wp2_with (at_builtin; refine wpList_append_own_at _ rfl (.tmp 23) (.tmp 42) 22 rfl w.heap.size 82 i0 _ 13 160 Tryz.underlying22 hi hz0 hz1 hz2 rfl (by decide) _ _ _ rfl HE1.row ⟨g20, 0, none⟩ 1 1 _ rfl rfl (blk_cells c20_1) (evCells_one _ _ _ _ _ _ _) (by unfold maxLen; omega) (by omega) (by omega) ?_)
          intro v' x8 hown8 hgrow _ hat; obtain ⟨p8, q8, hv8⟩ := ownsRow_len hown8
          subst hv8; have S8 := HB1.grown HE1.row hgrow (by decide)
          have R8 := HR1.grown HE1.row hgrow (by decide)
          have D8 := dice_grown HS.out.dice HE1.row hblt hsx hgrow
          have K8 := but_grown HK1 HE1.row hsx hgrow
          have E8 := HE1.snoc HT1 hgrow hown8; have f0 : x8.cell? ⟨S, 2, none⟩ = some (.slice pu ts.length cu) := S8.cell 2
          have z0 := S8.frozen 2; have HS9 := Lib.hid (S8.set 2 (.slice p8 (ts.length + 1) q8))
          have HR9 := Lib.hid (R8.set_other hRS2 2 (.slice p8 (ts.length + 1) q8))
          have HE9 := Lib.hid (E8.set S8 (by decide) (by decide) 2 (.slice p8 (ts.length + 1) q8))
          have HD9 := Lib.hid (dice_set (i := 2) (u := .slice p8 (ts.length + 1) q8) D8 hbS)
          have HK9 := Lib.hid (but_set (i := 2) (u := .slice p8 (ts.length + 1) q8) K8 hRS3)
          clear hgrow hown8 hat S8 R8 D8 K8 E8 HE1 HB1 HR1 HK1 HT1 c20_0 c20_1; go_wp2_with fail
          exact hQQ.out _ _ ⟨_, _, _, _, _, _, _, _, _, _, _, _, _, _, _, _, _, _, _, _, _, _, _, rfl, _, _, (ev20, _, _), HSG1.out, HS9.out, HR9.out, HE9.out, HD9.out, HK9.out⟩
      · obtain ⟨c0, c1, c2⟩ := And.intro (HB.out.cell 0) (And.intro (HB.out.cell 1) (HB.out.cell 2))
        simp only [List.getElem?_toArray, List.getElem?_cons_zero, List.getElem?_cons_succ] at c0 c1 c2
        obtain ⟨r0, r1, r2⟩ := And.intro (HR.out.cell 0) (And.intro (HR.out.cell 1) (HR.out.cell 2))
        simp only [List.getElem?_toArray, List.getElem?_cons_zero, List.getElem?_cons_succ] at r0 r1 r2
        obtain ⟨z0, z1, z2⟩ := And.intro (HR.out.frozen 0) (And.intro (HR.out.frozen 1) (HR.out.frozen 2))
        go_wp2_with fail
        have B1 := HR.out.set 0 (.string nm)
        have B2 := B1.set 1 (.int .i64 v1)
        have B3 := B2.set 2 (.slice pu ts.length cu)
        have E3 := ((HE.out.set HR.out (by decide) (by decide) 0 (.string nm)).set B1 (by decide) (by decide) 1 (.int .i64 v1)).set B2 (by decide) (by decide) 2 (.slice pu ts.length cu)
        have D3 := dice_set (i := 2) (u := .slice pu ts.length cu) (dice_set (i := 1) (u := .int .i64 v1) (dice_set (i := 0) (u := .string nm) HD0.out hblt) hblt) hblt
        have K3 := but_set (i := 2) (u := .slice pu ts.length cu) (but_set (i := 1) (u := .int .i64 v1) (but_set (i := 0) (u := .string nm) HK.out (Nat.le_refl _)) (Nat.le_refl _)) (Nat.le_refl _)
        obtain ⟨W, hW⟩ : ∃ W, W = ((wr.setCell ⟨w.heap.size, 0, none⟩ (.string nm)).setCell ⟨w.heap.size, 1, none⟩ (.int .i64 v1)).setCell ⟨w.heap.size, 2, none⟩ (.slice pu ts.length cu) := ⟨_, rfl⟩
        rw [← hW] at B3 E3 D3 K3 ⊢
        clear hW r0 r1 r2 c0 c1 c2 z0 z1 z2 B1 B2; have r0 : W.cell? ⟨w.heap.size, 0, none⟩ = some (.string nm) := B3.cell 0
        have r1 : W.cell? ⟨w.heap.size, 1, none⟩ = some (.int .i64 v1) := B3.cell 1
        have r2 : W.cell? ⟨w.heap.size, 2, none⟩ = some (.slice pu ts.length cu) := B3.cell 2
        refine bodyPost_ret (v := .agg #[.string nm, .int .i64 v1, .slice pu ts.length cu]) (by simp [results, Tryz.results20, go_sem, r0, r1, r2]) rfl ?_
        exact ⟨nm, v1, pu, cu, ts, rfl, hn, hv0, hv1, by omega, E3, HA.out.1, HCO.out, HA.out.2, D3, K3⟩
end Go.Proofs.YtageielcdebjlaaGreatDoor
