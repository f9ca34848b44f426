/- subscriber.twin: its contract: the same event, its lists in new memory. subscriber.Shown: its contract: the events that are not cancelled, in new memory. -/
import Derived.Test.YtageielcdebjlaaGreatDoorPk9
import Derived.Test.YtageielcdebjlaaGreatDoorRowT
namespace Go.Proofs.YtageielcdebjlaaGreatDoor
open Go.RowKit

/-- What twin leaves. -/
def Twin (e : Ev) (w : World) (x : Ending) (w' : World) : Prop := ∃ (q : Option Addr) (d : Nat) (q2 : Option Addr) (d2 : Nat), x = .returned (evVal e (.slice q e.days.ex.length d) (.slice q2 e.days.xt.length d2)) ∧ RowI w.heap.size w' (.slice q e.days.ex.length d) e.days.ex ∧ RowI w.heap.size w' (.slice q2 e.days.xt.length d2) e.days.xt ∧ Below w.heap.size w w'

set_option maxHeartbeats 16000000 in
set_option maxRecDepth 100000 in
theorem twin80 (e : Ev) (p p2 : Option Addr) (c c2 : Nat) (w : World) (hI : Ints w.heap.size w p e.days.ex) (hI2 : Ints w.heap.size w p2 e.days.xt) (hn : e.days.ex.length ≤ 1000000) (hn2 : e.days.xt.length ≤ 1000000) :
    Calls Tryz.prog 80 #[evVal e (.slice p e.days.ex.length c) (.slice p2 e.days.xt.length c2)] w (Twin e w) := by
  have HB := Lib.hid ((Blk.new w (evCells e (.slice p e.days.ex.length c) (.slice p2 e.days.xt.length c2)) 82).alloc (.cells #[.string ⟨#[]⟩, .int .i64 0, .bool false, .int .i64 0, .int .i64 0, .int .i64 0, .int .i64 0, .slice none 0 0, .slice none 0 0, .int .i64 0, .int .i64 0, .string ⟨#[]⟩, .string ⟨#[]⟩] 82))
  have HR := Lib.hid (Blk.new (w.alloc (.cells (evCells e (.slice p e.days.ex.length c) (.slice p2 e.days.xt.length c2)) 82)) #[.string ⟨#[]⟩, .int .i64 0, .bool false, .int .i64 0, .int .i64 0, .int .i64 0, .int .i64 0, .slice none 0 0, .slice none 0 0, .int .i64 0, .int .i64 0, .string ⟨#[]⟩, .string ⟨#[]⟩] 82)
  have HR := Lib.hid (show Blk (w.heap.size + 1) #[.string ⟨#[]⟩, .int .i64 0, .bool false, .int .i64 0, .int .i64 0, .int .i64 0, .int .i64 0, .slice none 0 0, .slice none 0 0, .int .i64 0, .int .i64 0, .string ⟨#[]⟩, .string ⟨#[]⟩] 82 _ from by simpa using HR.out)
  have HL := Lib.hid ((below_box w (.cells (evCells e (.slice p e.days.ex.length c) (.slice p2 e.days.xt.length c2)) 82)).alloc (by simp) (.cells #[.string ⟨#[]⟩, .int .i64 0, .bool false, .int .i64 0, .int .i64 0, .int .i64 0, .int .i64 0, .slice none 0 0, .slice none 0 0, .int .i64 0, .int .i64 0, .string ⟨#[]⟩, .string ⟨#[]⟩] 82))
  have HI := Lib.hid ((hI.below HL.out).mono HL.out.size)
  have HI2 := Lib.hid ((hI2.below HL.out).mono HL.out.size)
  have hsz0 : w.heap.size ≤ ((w.alloc (.cells (evCells e (.slice p e.days.ex.length c) (.slice p2 e.days.xt.length c2)) 82)).alloc (.cells #[.string ⟨#[]⟩, .int .i64 0, .bool false, .int .i64 0, .int .i64 0, .int .i64 0, .int .i64 0, .slice none 0 0, .slice none 0 0, .int .i64 0, .int .i64 0, .string ⟨#[]⟩, .string ⟨#[]⟩] 82)).heap.size := by simp; omega
  obtain ⟨w0, hw0⟩ : ∃ w0, w0 = (w.alloc (.cells (evCells e (.slice p e.days.ex.length c) (.slice p2 e.days.xt.length c2)) 82)).alloc (.cells #[.string ⟨#[]⟩, .int .i64 0, .bool false, .int .i64 0, .int .i64 0, .int .i64 0, .int .i64 0, .slice none 0 0, .slice none 0 0, .int .i64 0, .int .i64 0, .string ⟨#[]⟩, .string ⟨#[]⟩] 82) := ⟨_, rfl⟩
  rw [← hw0] at HB HR HL HI HI2 hsz0
  clear hI hI2; unfold evVal
  unfold evCells at hw0 ⊢
  have HW0 := Lib.hid hw0; clear hw0; go_enter Tryz.func80, Tryz.ntmps80
  go_upto_region 1 with (fail)
  rw [← HW0.out]; clear HW0; refine wp_region_tail 10 (by kernel_rfl) (fun listed a x => ∃ (l0 l1 l2 l3 l4 l5 l6 l7 l8 l9 : Bool) (t3 t4 t5 t6 t7 t8 t9 t10 t11 t12 : Value), listed = #[l0, l1, l2, l3, l4, l5, l6, l7, l8, l9, false, false, false, false] ∧ a = ⟨(.agg #[.string e.uid, .int .i64 e.seq, .bool e.canc, .int .i64 e.days.first, .int .i64 e.days.last, .int .i64 e.days.every, .int .i64 e.days.wd, .slice p e.days.ex.length c, .slice p2 e.days.xt.length c2, .int .i64 e.start, .int .i64 e.mins, .string e.summ, .string e.loc] :: .pointer (some ⟨w.heap.size, 0, none⟩) :: .pointer (some ⟨w.heap.size + 1, 0, none⟩) :: t3 :: t4 :: t5 :: t6 :: t7 :: t8 :: t9 :: t10 :: t11 :: t12 :: undef :: undef :: undef :: []).toArray, []⟩ ∧ Hid (l0 = true → t3 = .pointer (some ⟨w.heap.size, 3, none⟩)) ∧ Hid (l1 = true → t4 = .pointer (some ⟨w.heap.size, 7, none⟩)) ∧ Hid (l2 = true → t5 = .slice p e.days.ex.length c) ∧ Hid (l3 = true → ∃ (pq : Option Addr) (cq : Nat), t6 = .slice pq e.days.ex.length cq ∧ RowI w0.heap.size x (.slice pq e.days.ex.length cq) e.days.ex) ∧ Hid (l4 = true → t7 = .pointer (some ⟨w.heap.size, 3, none⟩)) ∧ Hid (l5 = true → t8 = .pointer (some ⟨w.heap.size, 8, none⟩)) ∧ Hid (l6 = true → t9 = .slice p2 e.days.xt.length c2) ∧ Hid (l7 = true → ∃ (pq : Option Addr) (cq : Nat), t10 = .slice pq e.days.xt.length cq ∧ RowI w0.heap.size x (.slice pq e.days.xt.length cq) e.days.xt) ∧ Hid (l8 = true → t11 = .pointer (some ⟨w.heap.size, 3, none⟩)) ∧ Hid (l9 = true → t12 = .pointer (some ⟨w.heap.size, 7, none⟩)) ∧ Hid (Made w0 x)) (by decide) (by kernel_rfl) (by kernel_rfl) ?_ ?_ ?_ ?_
  · exact ⟨false, false, false, false, false, false, false, false, false, false, _, _, _, _, _, _, _, _, _, _, rfl, rfl, Lib.hid (fun h => by cases h), Lib.hid (fun h => by cases h), Lib.hid (fun h => by cases h), Lib.hid (fun h => by cases h), Lib.hid (fun h => by cases h), Lib.hid (fun h => by cases h), Lib.hid (fun h => by cases h), Lib.hid (fun h => by cases h), Lib.hid (fun h => by cases h), Lib.hid (fun h => by cases h), Lib.hid (Made.start w0)⟩
  · intro listed a x hj; obtain ⟨l0, hj⟩ := hj
    obtain ⟨l1, hj⟩ := hj; obtain ⟨l2, hj⟩ := hj; obtain ⟨l3, hj⟩ := hj; obtain ⟨l4, hj⟩ := hj; obtain ⟨l5, hj⟩ := hj; obtain ⟨l6, hj⟩ := hj; obtain ⟨l7, hj⟩ := hj; obtain ⟨l8, hj⟩ := hj; obtain ⟨l9, hj⟩ := hj; obtain ⟨t3, hj⟩ := hj; obtain ⟨t4, hj⟩ := hj; obtain ⟨t5, hj⟩ := hj; obtain ⟨t6, hj⟩ := hj; obtain ⟨t7, hj⟩ := hj; obtain ⟨t8, hj⟩ := hj; obtain ⟨t9, hj⟩ := hj; obtain ⟨t10, hj⟩ := hj; obtain ⟨t11, hj⟩ := hj; obtain ⟨t12, hj⟩ := hj; obtain ⟨h1, -⟩ := hj; subst h1; exact ⟨rfl, fun k h1 h2 => by (have h2 : k < 14 := h2); rcases (show k = 10 ∨ k = 11 ∨ k = 12 ∨ k = 13 by omega) with rfl | rfl | rfl | rfl <;> rfl⟩
  · intro listed a x i hj hlt hu haf; obtain ⟨l0, hj⟩ := hj
    obtain ⟨l1, hj⟩ := hj; obtain ⟨l2, hj⟩ := hj; obtain ⟨l3, hj⟩ := hj; obtain ⟨l4, hj⟩ := hj; obtain ⟨l5, hj⟩ := hj; obtain ⟨l6, hj⟩ := hj; obtain ⟨l7, hj⟩ := hj; obtain ⟨l8, hj⟩ := hj; obtain ⟨l9, hj⟩ := hj; obtain ⟨t3, hj⟩ := hj; obtain ⟨t4, hj⟩ := hj; obtain ⟨t5, hj⟩ := hj; obtain ⟨t6, hj⟩ := hj; obtain ⟨t7, hj⟩ := hj; obtain ⟨t8, hj⟩ := hj; obtain ⟨t9, hj⟩ := hj; obtain ⟨t10, hj⟩ := hj; obtain ⟨t11, hj⟩ := hj; obtain ⟨t12, hj⟩ := hj; obtain ⟨hl_, hj⟩ := hj; obtain ⟨ha_, hj⟩ := hj; obtain ⟨H0, hj⟩ := hj; obtain ⟨H1, hj⟩ := hj; obtain ⟨H2, hj⟩ := hj; obtain ⟨H3, hj⟩ := hj; obtain ⟨H4, hj⟩ := hj; obtain ⟨H5, hj⟩ := hj; obtain ⟨H6, hj⟩ := hj; obtain ⟨H7, hj⟩ := hj; obtain ⟨H8, hj⟩ := hj; obtain ⟨H9, hj⟩ := hj; have HS := hj; clear hj; subst hl_; subst ha_; rcases (show ∀ i : Nat, i < 10 → (i = 0 ∨ i = 1 ∨ i = 2 ∨ i = 3 ∨ i = 4 ∨ i = 5 ∨ i = 6 ∨ i = 7 ∨ i = 8 ∨ i = 9) by decide) i hlt with rfl | rfl | rfl | rfl | rfl | rfl | rfl | rfl | rfl | rfl
    · have haf := haf _ rfl; clear haf
      have hu : l0 = false := hu
      refine wpOp_of_list_any rfl fun QQ hQ => ?_
      have hQQ := Lib.hid hQ; clear hQ; simp only [List.getElem_toArray, List.getElem_cons_zero]
      go_wp2_with fail
      exact hQQ.out _ _ ⟨true, l1, l2, l3, l4, l5, l6, l7, l8, l9, _, _, _, _, _, _, _, _, _, _, rfl, rfl, Lib.hid (fun _ => rfl), H1, H2, H3, H4, H5, H6, H7, H8, H9, HS⟩
    · have haf := haf _ rfl; have q0 : l0 = true := haf ⟨0, Go.Ground.data⟩ (by simp) rfl
      clear haf; have hu : l1 = false := hu
      have e0 := (H0.out q0)
      subst e0; clear H0; refine wpOp_of_list_any rfl fun QQ hQ => ?_
      have hQQ := Lib.hid hQ; clear hQ; simp only [List.getElem_toArray, List.getElem_cons_zero, List.getElem_cons_succ]
      go_wp2_with fail
      exact hQQ.out _ _ ⟨l0, true, l2, l3, l4, l5, l6, l7, l8, l9, _, _, _, _, _, _, _, _, _, _, rfl, rfl, Lib.hid (fun _ => rfl), Lib.hid (fun _ => rfl), H2, H3, H4, H5, H6, H7, H8, H9, HS⟩
    · have haf := haf _ rfl; have q1 : l1 = true := haf ⟨1, Go.Ground.data⟩ (by simp) rfl
      clear haf; have hu : l2 = false := hu
      have e1 := (H1.out q1)
      subst e1; clear H1; have hc : x.cell? ⟨w.heap.size, 7, none⟩ = some (.slice p e.days.ex.length c) := (HS.out.blk HB.out).cell 7
      refine wpOp_of_list_any rfl fun QQ hQ => ?_
      have hQQ := Lib.hid hQ; clear hQ; simp only [List.getElem_toArray, List.getElem_cons_zero, List.getElem_cons_succ]
      go_wp2_with fail
      exact hQQ.out _ _ ⟨l0, l1, true, l3, l4, l5, l6, l7, l8, l9, _, _, _, _, _, _, _, _, _, _, rfl, rfl, H0, Lib.hid (fun _ => rfl), Lib.hid (fun _ => rfl), H3, H4, H5, H6, H7, H8, H9, HS⟩
    · have haf := haf _ rfl; have q2 : l2 = true := haf ⟨2, Go.Ground.data⟩ (by simp) rfl
      clear haf; have hu : l3 = false := hu
      have e2 := (H2.out q2)
      subst e2; clear H2; refine wpOp_of_list_any rfl fun QQ hQ => ?_
      have hQQ := Lib.hid hQ; clear hQ; simp only [List.getElem_toArray, List.getElem_cons_zero, List.getElem_cons_succ]
      go_wp2_with fail
      refine (clone146 x.heap.size _ _ _ x ((HI.out.below HS.out.below).mono HS.out.below.size) hn).mono ?_
      rintro y x1 ⟨u, rfl, hX, hb1⟩; have hk := Kept.made (B := w0.heap.size) hb1
      have HS1 := Lib.hid (HS.out.then hb1)
      have hX : RowI w0.heap.size x1 u _ := ownsRow_mono hX HS.out.below.size
      obtain ⟨pq, cq, hv⟩ := hX.slice
      subst hv; have HX1 := Lib.hid hX; clear hX hb1; go_wp2_with fail
      exact hQQ.out _ _ ⟨l0, l1, l2, true, l4, l5, l6, l7, l8, l9, _, _, _, _, _, _, _, _, _, _, rfl, rfl, H0, H1, Lib.hid (fun _ => rfl), Lib.hid (fun _ => ⟨_, _, rfl, HX1.out⟩), H4, H5, H6, Lib.hid (fun h => (by obtain ⟨pq, cq, e, c0⟩ := H7.out h; exact ⟨pq, cq, e, (row_kept c0 hk)⟩)), H8, H9, HS1⟩
    · have haf := haf _ rfl; clear haf
      have hu : l4 = false := hu
      refine wpOp_of_list_any rfl fun QQ hQ => ?_
      have hQQ := Lib.hid hQ; clear hQ; simp only [List.getElem_toArray, List.getElem_cons_zero, List.getElem_cons_succ]
      go_wp2_with fail
      exact hQQ.out _ _ ⟨l0, l1, l2, l3, true, l5, l6, l7, l8, l9, _, _, _, _, _, _, _, _, _, _, rfl, rfl, H0, H1, H2, H3, Lib.hid (fun _ => rfl), H5, H6, H7, H8, H9, HS⟩
    · have haf := haf _ rfl; have q4 : l4 = true := haf ⟨4, Go.Ground.data⟩ (by simp) rfl
      clear haf; have hu : l5 = false := hu
      have e4 := (H4.out q4)
      subst e4; clear H4; refine wpOp_of_list_any rfl fun QQ hQ => ?_
      have hQQ := Lib.hid hQ; clear hQ; simp only [List.getElem_toArray, List.getElem_cons_zero, List.getElem_cons_succ]
      go_wp2_with fail
      exact hQQ.out _ _ ⟨l0, l1, l2, l3, l4, true, l6, l7, l8, l9, _, _, _, _, _, _, _, _, _, _, rfl, rfl, H0, H1, H2, H3, Lib.hid (fun _ => rfl), Lib.hid (fun _ => rfl), H6, H7, H8, H9, HS⟩
    · have haf := haf _ rfl; have q5 : l5 = true := haf ⟨5, Go.Ground.data⟩ (by simp) rfl
      clear haf; have hu : l6 = false := hu
      have e5 := (H5.out q5)
      subst e5; clear H5; have hc : x.cell? ⟨w.heap.size, 8, none⟩ = some (.slice p2 e.days.xt.length c2) := (HS.out.blk HB.out).cell 8
      refine wpOp_of_list_any rfl fun QQ hQ => ?_
      have hQQ := Lib.hid hQ; clear hQ; simp only [List.getElem_toArray, List.getElem_cons_zero, List.getElem_cons_succ]
      go_wp2_with fail
      exact hQQ.out _ _ ⟨l0, l1, l2, l3, l4, l5, true, l7, l8, l9, _, _, _, _, _, _, _, _, _, _, rfl, rfl, H0, H1, H2, H3, H4, Lib.hid (fun _ => rfl), Lib.hid (fun _ => rfl), H7, H8, H9, HS⟩
    · have haf := haf _ rfl; have q6 : l6 = true := haf ⟨6, Go.Ground.data⟩ (by simp) rfl
      clear haf; have hu : l7 = false := hu
      have e6 := (H6.out q6)
      subst e6; clear H6; refine wpOp_of_list_any rfl fun QQ hQ => ?_
      have hQQ := Lib.hid hQ; clear hQ; simp only [List.getElem_toArray, List.getElem_cons_zero, List.getElem_cons_succ]
      go_wp2_with fail
      refine (clone146 x.heap.size _ _ _ x ((HI2.out.below HS.out.below).mono HS.out.below.size) hn2).mono ?_
      rintro y x1 ⟨u, rfl, hX, hb1⟩; have hk := Kept.made (B := w0.heap.size) hb1
      have HS1 := Lib.hid (HS.out.then hb1)
      have hX : RowI w0.heap.size x1 u _ := ownsRow_mono hX HS.out.below.size
      obtain ⟨pq, cq, hv⟩ := hX.slice
      subst hv; have HX1 := Lib.hid hX; clear hX hb1; go_wp2_with fail
      exact hQQ.out _ _ ⟨l0, l1, l2, l3, l4, l5, l6, true, l8, l9, _, _, _, _, _, _, _, _, _, _, rfl, rfl, H0, H1, H2, Lib.hid (fun h => (by obtain ⟨pq, cq, e, c0⟩ := H3.out h; exact ⟨pq, cq, e, (row_kept c0 hk)⟩)), H4, H5, Lib.hid (fun _ => rfl), Lib.hid (fun _ => ⟨_, _, rfl, HX1.out⟩), H8, H9, HS1⟩
    · have haf := haf _ rfl; clear haf
      have hu : l8 = false := hu
      refine wpOp_of_list_any rfl fun QQ hQ => ?_
      have hQQ := Lib.hid hQ; clear hQ; simp only [List.getElem_toArray, List.getElem_cons_zero, List.getElem_cons_succ]
      go_wp2_with fail
      exact hQQ.out _ _ ⟨l0, l1, l2, l3, l4, l5, l6, l7, true, l9, _, _, _, _, _, _, _, _, _, _, rfl, rfl, H0, H1, H2, H3, H4, H5, H6, H7, Lib.hid (fun _ => rfl), H9, HS⟩
    · have haf := haf _ rfl; have q8 : l8 = true := haf ⟨8, Go.Ground.data⟩ (by simp) rfl
      clear haf; have hu : l9 = false := hu
      have e8 := (H8.out q8)
      subst e8; clear H8; refine wpOp_of_list_any rfl fun QQ hQ => ?_
      have hQQ := Lib.hid hQ; clear hQ; simp only [List.getElem_toArray, List.getElem_cons_zero, List.getElem_cons_succ]
      go_wp2_with fail
      exact hQQ.out _ _ ⟨l0, l1, l2, l3, l4, l5, l6, l7, l8, true, _, _, _, _, _, _, _, _, _, _, rfl, rfl, H0, H1, H2, H3, H4, H5, H6, H7, Lib.hid (fun _ => rfl), Lib.hid (fun _ => rfl), HS⟩
  · intro listed a x hj hall; obtain ⟨l0, hj⟩ := hj
    obtain ⟨l1, hj⟩ := hj; obtain ⟨l2, hj⟩ := hj; obtain ⟨l3, hj⟩ := hj; obtain ⟨l4, hj⟩ := hj; obtain ⟨l5, hj⟩ := hj; obtain ⟨l6, hj⟩ := hj; obtain ⟨l7, hj⟩ := hj; obtain ⟨l8, hj⟩ := hj; obtain ⟨l9, hj⟩ := hj; obtain ⟨t3, hj⟩ := hj; obtain ⟨t4, hj⟩ := hj; obtain ⟨t5, hj⟩ := hj; obtain ⟨t6, hj⟩ := hj; obtain ⟨t7, hj⟩ := hj; obtain ⟨t8, hj⟩ := hj; obtain ⟨t9, hj⟩ := hj; obtain ⟨t10, hj⟩ := hj; obtain ⟨t11, hj⟩ := hj; obtain ⟨t12, hj⟩ := hj; obtain ⟨hl_, hj⟩ := hj; obtain ⟨ha_, hj⟩ := hj; obtain ⟨H0, hj⟩ := hj; obtain ⟨H1, hj⟩ := hj; obtain ⟨H2, hj⟩ := hj; obtain ⟨H3, hj⟩ := hj; obtain ⟨H4, hj⟩ := hj; obtain ⟨H5, hj⟩ := hj; obtain ⟨H6, hj⟩ := hj; obtain ⟨H7, hj⟩ := hj; obtain ⟨H8, hj⟩ := hj; obtain ⟨H9, hj⟩ := hj; have HS := hj; clear hj; subst hl_; subst ha_; have q3 : l3 = true := hall 3 (by omega)
    have q7 : l7 = true := hall 7 (by omega)
    have q9 : l9 = true := hall 9 (by omega)
    clear hall; obtain ⟨pq3, cq3, e3, c3_0⟩ := (H3.out q3)
    subst e3; obtain ⟨pq7, cq7, e7, c7_0⟩ := (H7.out q7)
    subst e7; have e9 := (H9.out q9)
    subst e9; have f7 : x.cell? ⟨w.heap.size, 7, none⟩ = some (.slice p e.days.ex.length c) := (HS.out.blk HB.out).cell 7
    have f8 : x.cell? ⟨w.heap.size, 8, none⟩ = some (.slice p2 e.days.xt.length c2) := (HS.out.blk HB.out).cell 8
    have z7 := (HS.out.blk HB.out).frozen 7
    have z8 := (HS.out.blk HB.out).frozen 8
    have B1 := (HS.out.blk HB.out).set 7 (.slice pq3 e.days.ex.length cq3)
    have HB2 := Lib.hid (show Blk w.heap.size (evCells e (.slice pq3 e.days.ex.length cq3) (.slice pq7 e.days.xt.length cq7)) 82 _ from B1.set 8 (.slice pq7 e.days.xt.length cq7))
    have HR2 := Lib.hid (((HS.out.blk HR.out).set_other (show w.heap.size + 1 ≠ w.heap.size by omega) 7 (.slice pq3 e.days.ex.length cq3)).set_other (show w.heap.size + 1 ≠ w.heap.size by omega) 8 (.slice pq7 e.days.xt.length cq7))
    have HX2 := Lib.hid (show RowI w.heap.size _ (.slice pq3 e.days.ex.length cq3) e.days.ex from row_set (row_set (ownsRow_mono c3_0 (by omega)) (HS.out.blk HB.out) (by decide) 7 (.slice pq3 e.days.ex.length cq3)) B1 (by decide) 8 (.slice pq7 e.days.xt.length cq7))
    have HY2 := Lib.hid (show RowI w.heap.size _ (.slice pq7 e.days.xt.length cq7) e.days.xt from row_set (row_set (ownsRow_mono c7_0 (by omega)) (HS.out.blk HB.out) (by decide) 7 (.slice pq3 e.days.ex.length cq3)) B1 (by decide) 8 (.slice pq7 e.days.xt.length cq7))
    have HL2 := Lib.hid (((HL.out.trans (HS.out.below.mono hsz0)).setCell (show w.heap.size ≤ (⟨w.heap.size, 7, none⟩ : Addr).block from Nat.le_refl _) (.slice pq3 e.days.ex.length cq3)).setCell (show w.heap.size ≤ (⟨w.heap.size, 8, none⟩ : Addr).block from Nat.le_refl _) (.slice pq7 e.days.xt.length cq7))
    clear B1; refine tail_any (fun a x => ∃ (t3 t4 t5 t6 t7 t8 t9 t10 t11 t12 t13 t14 : Value), a = ⟨(.agg #[.string e.uid, .int .i64 e.seq, .bool e.canc, .int .i64 e.days.first, .int .i64 e.days.last, .int .i64 e.days.every, .int .i64 e.days.wd, .slice p e.days.ex.length c, .slice p2 e.days.xt.length c2, .int .i64 e.start, .int .i64 e.mins, .string e.summ, .string e.loc] :: .pointer (some ⟨w.heap.size, 0, none⟩) :: .pointer (some ⟨w.heap.size + 1, 0, none⟩) :: t3 :: t4 :: t5 :: t6 :: t7 :: t8 :: t9 :: t10 :: t11 :: t12 :: t13 :: t14 :: undef :: []).toArray, []⟩ ∧ ∃ (q q2 : Option Addr) (d d2 : Nat), Blk w.heap.size (evCells e (.slice q e.days.ex.length d) (.slice q2 e.days.xt.length d2)) 82 x ∧ Blk (w.heap.size + 1) #[.string ⟨#[]⟩, .int .i64 0, .bool false, .int .i64 0, .int .i64 0, .int .i64 0, .int .i64 0, .slice none 0 0, .slice none 0 0, .int .i64 0, .int .i64 0, .string ⟨#[]⟩, .string ⟨#[]⟩] 82 x ∧ RowI w.heap.size x (.slice q e.days.ex.length d) e.days.ex ∧ RowI w.heap.size x (.slice q2 e.days.xt.length d2) e.days.xt ∧ Below w.heap.size w x) ?_ fun QQ hQ => ?_
    · intro a x hpost; obtain ⟨t3, hpost⟩ := hpost
      obtain ⟨t4, hpost⟩ := hpost; obtain ⟨t5, hpost⟩ := hpost; obtain ⟨t6, hpost⟩ := hpost; obtain ⟨t7, hpost⟩ := hpost; obtain ⟨t8, hpost⟩ := hpost; obtain ⟨t9, hpost⟩ := hpost; obtain ⟨t10, hpost⟩ := hpost; obtain ⟨t11, hpost⟩ := hpost; obtain ⟨t12, hpost⟩ := hpost; obtain ⟨t13, hpost⟩ := hpost; obtain ⟨t14, hpost⟩ := hpost; obtain ⟨ha_, hpost⟩ := hpost; subst ha_; obtain ⟨q, q2, d, d2, b1, b2, b3, b4, b5⟩ := hpost; have y0 : x.cell? ⟨w.heap.size, 0, none⟩ = some (.string e.uid) := b1.cell 0
      have y1 : x.cell? ⟨w.heap.size, 1, none⟩ = some (.int .i64 e.seq) := b1.cell 1
      have y2 : x.cell? ⟨w.heap.size, 2, none⟩ = some (.bool e.canc) := b1.cell 2
      have y3 : x.cell? ⟨w.heap.size, 3, none⟩ = some (.int .i64 e.days.first) := b1.cell 3
      have y4 : x.cell? ⟨w.heap.size, 4, none⟩ = some (.int .i64 e.days.last) := b1.cell 4
      have y5 : x.cell? ⟨w.heap.size, 5, none⟩ = some (.int .i64 e.days.every) := b1.cell 5
      have y6 : x.cell? ⟨w.heap.size, 6, none⟩ = some (.int .i64 e.days.wd) := b1.cell 6
      have y7 : x.cell? ⟨w.heap.size, 7, none⟩ = some (.slice q e.days.ex.length d) := b1.cell 7
      have y8 : x.cell? ⟨w.heap.size, 8, none⟩ = some (.slice q2 e.days.xt.length d2) := b1.cell 8
      have y9 : x.cell? ⟨w.heap.size, 9, none⟩ = some (.int .i64 e.start) := b1.cell 9
      have y10 : x.cell? ⟨w.heap.size, 10, none⟩ = some (.int .i64 e.mins) := b1.cell 10
      have y11 : x.cell? ⟨w.heap.size, 11, none⟩ = some (.string e.summ) := b1.cell 11
      have y12 : x.cell? ⟨w.heap.size, 12, none⟩ = some (.string e.loc) := b1.cell 12
      have r0 : x.cell? ⟨w.heap.size + 1, 0, none⟩ = some (.string ⟨#[]⟩) := b2.cell 0
      have r1 : x.cell? ⟨w.heap.size + 1, 1, none⟩ = some (.int .i64 0) := b2.cell 1
      have r2 : x.cell? ⟨w.heap.size + 1, 2, none⟩ = some (.bool false) := b2.cell 2
      have r3 : x.cell? ⟨w.heap.size + 1, 3, none⟩ = some (.int .i64 0) := b2.cell 3
      have r4 : x.cell? ⟨w.heap.size + 1, 4, none⟩ = some (.int .i64 0) := b2.cell 4
      have r5 : x.cell? ⟨w.heap.size + 1, 5, none⟩ = some (.int .i64 0) := b2.cell 5
      have r6 : x.cell? ⟨w.heap.size + 1, 6, none⟩ = some (.int .i64 0) := b2.cell 6
      have r7 : x.cell? ⟨w.heap.size + 1, 7, none⟩ = some (.slice none 0 0) := b2.cell 7
      have r8 : x.cell? ⟨w.heap.size + 1, 8, none⟩ = some (.slice none 0 0) := b2.cell 8
      have r9 : x.cell? ⟨w.heap.size + 1, 9, none⟩ = some (.int .i64 0) := b2.cell 9
      have r10 : x.cell? ⟨w.heap.size + 1, 10, none⟩ = some (.int .i64 0) := b2.cell 10
      have r11 : x.cell? ⟨w.heap.size + 1, 11, none⟩ = some (.string ⟨#[]⟩) := b2.cell 11
      have r12 : x.cell? ⟨w.heap.size + 1, 12, none⟩ = some (.string ⟨#[]⟩) := b2.cell 12
      have z0 := b2.frozen 0; have z1 := b2.frozen 1; have z2 := b2.frozen 2; have z3 := b2.frozen 3; have z4 := b2.frozen 4; have z5 := b2.frozen 5; have z6 := b2.frozen 6; have z7 := b2.frozen 7; have z8 := b2.frozen 8; have z9 := b2.frozen 9; have z10 := b2.frozen 10; have z11 := b2.frozen 11; have z12 := b2.frozen 12; have h1 := Lib.hid b1; have h2 := Lib.hid b2; have h3 := Lib.hid b3; have h4 := Lib.hid b4; have h5 := Lib.hid b5; clear b1 b2 b3 b4 b5; go_wp2_with fail
      obtain ⟨W, hW, B9, fX, fK⟩ := fillEv h2.out e (.slice q e.days.ex.length d) (.slice q2 e.days.xt.length d2)
      rw [← hW]; have X9 := fX _ _ _ h3.out
      have Y9 := fX _ _ _ h4.out
      have L9 := fK w.heap.size w (by omega) h5.out
      clear hW fX fK y0 r0 z0 y1 r1 z1 y2 r2 z2 y3 r3 z3 y4 r4 z4 y5 r5 z5 y6 r6 z6 y7 r7 z7 y8 r8 z8 y9 r9 z9 y10 r10 z10 y11 r11 z11 y12 r12 z12; have r0 : W.cell? ⟨w.heap.size + 1, 0, none⟩ = some (.string e.uid) := B9.cell 0
      have r1 : W.cell? ⟨w.heap.size + 1, 1, none⟩ = some (.int .i64 e.seq) := B9.cell 1
      have r2 : W.cell? ⟨w.heap.size + 1, 2, none⟩ = some (.bool e.canc) := B9.cell 2
      have r3 : W.cell? ⟨w.heap.size + 1, 3, none⟩ = some (.int .i64 e.days.first) := B9.cell 3
      have r4 : W.cell? ⟨w.heap.size + 1, 4, none⟩ = some (.int .i64 e.days.last) := B9.cell 4
      have r5 : W.cell? ⟨w.heap.size + 1, 5, none⟩ = some (.int .i64 e.days.every) := B9.cell 5
      have r6 : W.cell? ⟨w.heap.size + 1, 6, none⟩ = some (.int .i64 e.days.wd) := B9.cell 6
      have r7 : W.cell? ⟨w.heap.size + 1, 7, none⟩ = some (.slice q e.days.ex.length d) := B9.cell 7
      have r8 : W.cell? ⟨w.heap.size + 1, 8, none⟩ = some (.slice q2 e.days.xt.length d2) := B9.cell 8
      have r9 : W.cell? ⟨w.heap.size + 1, 9, none⟩ = some (.int .i64 e.start) := B9.cell 9
      have r10 : W.cell? ⟨w.heap.size + 1, 10, none⟩ = some (.int .i64 e.mins) := B9.cell 10
      have r11 : W.cell? ⟨w.heap.size + 1, 11, none⟩ = some (.string e.summ) := B9.cell 11
      have r12 : W.cell? ⟨w.heap.size + 1, 12, none⟩ = some (.string e.loc) := B9.cell 12
      refine bodyPost_ret (v := evVal e (.slice q e.days.ex.length d) (.slice q2 e.days.xt.length d2)) (by simp [results, Tryz.results80, go_sem, r0, r1, r2, r3, r4, r5, r6, r7, r8, r9, r10, r11, r12, evVal, evCells]) rfl ?_
      exact ⟨q, d, q2, d2, rfl, X9, Y9, L9⟩
    have hQQ := Lib.hid hQ; clear hQ; simp only [List.drop_succ_cons, List.drop_zero]
    go_wp2_with fail
    exact hQQ.out _ _ ⟨_, _, _, _, _, _, _, _, _, _, _, _, rfl, _, _, _, _, HB2.out, HR2.out, HX2.out, HY2.out, HL2.out⟩
end Go.Proofs.YtageielcdebjlaaGreatDoor
namespace Go.Proofs.YtageielcdebjlaaGreatDoor
open Go.RowKit

/-- The events that are shown. -/
def shownV (rv : Int) (es : List Ev) : List Ev := if rdOk rv es = true then es.filter (fun e => !e.canc) else []
theorem shown_take (es : List Ev) (k : Nat) (e : Ev) (h : es[k]? = some e) : (es.take (k + 1)).filter (fun e => !e.canc) = (es.take k).filter (fun e => !e.canc) ++ (if e.canc then [] else [e]) := by
  obtain ⟨h1, h2⟩ := List.getElem?_eq_some_iff.1 h
  rw [List.take_succ_eq_append_getElem h1, List.filter_append, h2]
  cases hc : e.canc <;> simp [hc]

set_option maxHeartbeats 16000000 in
set_option maxRecDepth 100000 in
theorem shown64 (rv tag : Int) (ar : Option Addr) (cr : Nat) (rs : List (Ev × Value × Value)) (w : World) (hR : Seg w.heap.size w ar rs) (hrl : rs.length ≤ 1000000) (hsr : ∀ t ∈ rs, t.1.days.ex.length ≤ 1000000 ∧ t.1.days.xt.length ≤ 1000000) :
    Calls Tryz.prog 64 #[.agg #[.int .i64 rv, .int .i64 tag, .slice ar rs.length cr]] w fun x w' => ∃ (pu : Option Addr) (cu : Nat) (ts : List (Ev × Value × Value)), x = .returned (.slice pu ts.length cu) ∧ ts.map (·.1) = shownV rv (rs.map (·.1)) ∧ RowT w.heap.size w' (.slice pu ts.length cu) ts ∧ Below w.heap.size w w' := by
  obtain ⟨i0, hi, hz0, hz1, hz2⟩ := info_parts infoEv
  obtain ⟨w0, hw0⟩ : ∃ w0, w0 = w.alloc (.cells #[.int .i64 rv, .int .i64 tag, .slice ar rs.length cr] 24) := ⟨_, rfl⟩
  have HRB := Lib.hid (show Blk w.heap.size #[.int .i64 rv, .int .i64 tag, .slice ar rs.length cr] 24 w0 from by rw [hw0]; exact Blk.new w _ _)
  have HL := Lib.hid (show Below w.heap.size w w0 from by rw [hw0]; exact below_box w _)
  have hs0 : w.heap.size + 1 ≤ w0.heap.size := by rw [hw0]; simp
  have HR := Lib.hid hR; have HR0 := Lib.hid hR; have HSR := Lib.hid hsr; obtain ⟨n, hn⟩ : ∃ n, n = rs.length := ⟨_, rfl⟩
  obtain ⟨es, hes⟩ : ∃ es, es = rs.map (·.1) := ⟨_, rfl⟩
  have HLN := Lib.hid (show es.length = n from by simp [hn, hes])
  have Hes := Lib.hid hes; have HV1 : Hid (∀ W, Below w.heap.size w0 W → Calls Tryz.prog 24 #[.agg #[.int .i64 rv, .int .i64 tag, .slice ar n cr]] W fun e w' => e = .returned (.bool (rdOk rv es)) ∧ Below W.heap.size W w') := Lib.hid (fun W hW => by
    have h := valid24 rv tag es ar cr w.heap.size W (by have := hW.size; omega) (by rw [Hes.out]; exact (HR0.out.below (HL.out.trans (hW.mono (by omega)))).evs) (by rw [HLN.out]; omega)
    rw [HLN.out] at h
    exact h)
  rw [← hes]; rw [← hn] at hw0 HRB hrl ⊢
  have Hn := Lib.hid hn; clear hR hsr hn hes; have y0 : w0.cell? ⟨w.heap.size, 0, none⟩ = some (.int .i64 rv) := HRB.out.cell 0
  have y1 : w0.cell? ⟨w.heap.size, 1, none⟩ = some (.int .i64 tag) := HRB.out.cell 1
  have y2 : w0.cell? ⟨w.heap.size, 2, none⟩ = some (.slice ar n cr) := HRB.out.cell 2
  go_enter Tryz.func64, Tryz.ntmps64
  go_upto_region 1 with (fail)
  rw [← hw0]; clear hw0; go_wp2_with fail
  refine (HV1.out _ (Below.refl _ _)).mono ?_
  rintro e w1 ⟨rfl, hb1⟩; have HRB1 := Lib.hid (hb1.block w.heap.size HRB.out.lt |>.trans HRB.out)
  have HL1 := Lib.hid (HL.out.trans (hb1.mono (by omega)))
  clear hb1 y0 y1 y2 HL; by_cases hok : rdOk rv es = true
  · have hnk : (!rdOk rv es) = false := by rw [hok]; rfl
    have HOK := Lib.hid hok; have y2 : w1.cell? ⟨w.heap.size, 2, none⟩ = some (.slice ar n cr) := Blk.cell (show Blk w.heap.size _ 24 w1 from HRB1.out) 2
    go_wp2_with fail
    clear y2; go_loopw [3, 12] (fun s3 iv wr => ∃ (k : Nat) (pu : Option Addr) (cu : Nat) (ts : List (Ev × Value × Value)), s3 = .slice pu ts.length cu ∧ iv = .int .i64 k ∧ k ≤ n ∧ Hid (RowT w.heap.size wr (.slice pu ts.length cu) ts) ∧ Hid (ts.map (·.1) = (es.take k).filter (fun e => !e.canc)) ∧ Hid (Below w.heap.size w wr)) (fun _ iv _ => n - (intOf iv).toNat)
    case atStart => exact ⟨0, none, 0, [], rfl, rfl, Nat.zero_le _, Lib.hid (RowT.nil _ _), Lib.hid rfl, HL1⟩
    case round =>
      clear HL1 HRB1; obtain ⟨k, pu, cu, ts, rfl, rfl, hk, HT, HM, HL⟩ := hrel; have hNr : w.heap.size ≤ wr.heap.size := HL.out.size
      have HTL := Lib.hid (show ts.length ≤ n from by have h := congrArg List.length HM.out; rw [List.length_map] at h; have h2 := List.length_filter_le (fun e : Ev => !e.canc) (es.take k); rw [List.length_take] at h2; omega)
      by_cases hlt : k < n
      · have hlti : (k : Int) < n := by omega
        obtain ⟨t, ht⟩ : ∃ t, rs[k]? = some t := ⟨_, List.getElem?_eq_getElem (by rw [← Hn.out]; exact hlt)⟩
        obtain ⟨e, va, vb⟩ := t; obtain ⟨bf, of, haf, hbf, hcf⟩ : ∃ b o, ar = some ⟨b, o, none⟩ ∧ b < w.heap.size ∧ ∀ (j : Nat) (u : Value), (tCells rs)[j]? = some u → w.cell? ⟨b, o + j, none⟩ = some u := by
          rcases HR.out.at' with h | h
          · rw [h] at ht; simp at ht
          · exact h
        subst haf; have hev := (seg_c hcf k _ ht).below hbf HL.out
        have HRE0 := HR.out.ref _ (List.mem_of_getElem? ht)
        obtain ⟨hEB, ⟨pe, ke, hva, hia⟩, ⟨pf, kf, hvb, hib⟩⟩ := id HRE0
        simp only at hva hvb hia hib
        subst hva; subst hvb; have HEB := Lib.hid hEB; have HLE := Lib.hid (HSR.out _ (List.mem_of_getElem? ht))
        have HFK := Lib.hid (show es[k]? = some e from by rw [Hes.out, List.getElem?_map, ht]; rfl)
        obtain ⟨c0, c1, c2, c3, c4, c5, c6, c7, c8, c9, c10, c11, c12⟩ := hev; simp only at c0 c1 c2 c3 c4 c5 c6 c7 c8 c9 c10 c11 c12
        obtain ⟨X, hX⟩ : ∃ X, X = wr.alloc (.cells #[.string e.uid, .int .i64 e.seq, .bool e.canc, .int .i64 e.days.first, .int .i64 e.days.last, .int .i64 e.days.every, .int .i64 e.days.wd, .slice pe e.days.ex.length ke, .slice pf e.days.xt.length kf, .int .i64 e.start, .int .i64 e.mins, .string e.summ, .string e.loc] 82) := ⟨_, rfl⟩
        have HXE := Lib.hid (show Blk wr.heap.size (evCells e (.slice pe e.days.ex.length ke) (.slice pf e.days.xt.length kf)) 82 X from by rw [hX]; exact Blk.new wr _ _)
        have HX := Lib.hid (show Below wr.heap.size wr X from by rw [hX]; exact below_box wr _)
        have hXs : X.heap.size = wr.heap.size + 1 := by rw [hX]; simp
        have hNX : w.heap.size ≤ X.heap.size := by omega
        have HLX := Lib.hid (HL.out.trans (HX.out.mono hNr))
        have HTX := Lib.hid (HT.out.made HX.out)
        have HTW := Lib.hid (show Calls Tryz.prog 80 #[.agg #[.string e.uid, .int .i64 e.seq, .bool e.canc, .int .i64 e.days.first, .int .i64 e.days.last, .int .i64 e.days.every, .int .i64 e.days.wd, .slice pe e.days.ex.length ke, .slice pf e.days.xt.length kf, .int .i64 e.start, .int .i64 e.mins, .string e.summ, .string e.loc]] X (Twin e X) from twin80 e pe pf ke kf X ((hia.below HLX.out).mono hNX) ((hib.below HLX.out).mono hNX) HLE.out.1 HLE.out.2)
        clear hEB hia hib HRE0 ht hcf hXs; go_upto_region 7 with (fail)
        rw [← hX]; clear hX HT HL c0 c1 c2 c3 c4 c5 c6 c7 c8 c9 c10 c11 c12; have y0 : X.cell? ⟨wr.heap.size, 0, none⟩ = some (.string e.uid) := HXE.out.cell 0
        have y1 : X.cell? ⟨wr.heap.size, 1, none⟩ = some (.int .i64 e.seq) := HXE.out.cell 1
        have y2 : X.cell? ⟨wr.heap.size, 2, none⟩ = some (.bool e.canc) := HXE.out.cell 2
        have y3 : X.cell? ⟨wr.heap.size, 3, none⟩ = some (.int .i64 e.days.first) := HXE.out.cell 3
        have y4 : X.cell? ⟨wr.heap.size, 4, none⟩ = some (.int .i64 e.days.last) := HXE.out.cell 4
        have y5 : X.cell? ⟨wr.heap.size, 5, none⟩ = some (.int .i64 e.days.every) := HXE.out.cell 5
        have y6 : X.cell? ⟨wr.heap.size, 6, none⟩ = some (.int .i64 e.days.wd) := HXE.out.cell 6
        have y7 : X.cell? ⟨wr.heap.size, 7, none⟩ = some (.slice pe e.days.ex.length ke) := HXE.out.cell 7
        have y8 : X.cell? ⟨wr.heap.size, 8, none⟩ = some (.slice pf e.days.xt.length kf) := HXE.out.cell 8
        have y9 : X.cell? ⟨wr.heap.size, 9, none⟩ = some (.int .i64 e.start) := HXE.out.cell 9
        have y10 : X.cell? ⟨wr.heap.size, 10, none⟩ = some (.int .i64 e.mins) := HXE.out.cell 10
        have y11 : X.cell? ⟨wr.heap.size, 11, none⟩ = some (.string e.summ) := HXE.out.cell 11
        have y12 : X.cell? ⟨wr.heap.size, 12, none⟩ = some (.string e.loc) := HXE.out.cell 12
        obtain ⟨B, hB⟩ : ∃ B, B = e.canc := ⟨_, rfl⟩
        have HB := Lib.hid hB; rw [← hB] at y2 HTW
        clear hB; cases B
        · have hcn := HB.out.symm; have HF : Hid (∀ (a b : Value), (ts ++ [((e, a, b) : Ev × Value × Value)]).map (·.1) = (es.take (k + 1)).filter (fun e => !e.canc)) := Lib.hid (fun a b => by rw [shown_take es k e HFK.out, List.map_append, HM.out, hcn]; rfl)
          clear hcn; have hA1 : ts.length + 1 ≤ maxLen := by have := HTL.out; unfold maxLen; omega
          have hA2 : (ts.length + 1) * 160 ≤ 140737488355328 := by have := HTL.out; omega
          go_wp2_with fail
          refine HTW.out.mono ?_
          rintro y X1 ⟨q, d, q2, d2, rfl, hX1, hY1, hb1⟩; have HT1 := Lib.hid ((HTX.out.made hb1).alloc (.cells (evCells e (Value.slice q e.days.ex.length d) (Value.slice q2 e.days.xt.length d2)) 82))
          have HL1 := Lib.hid ((HLX.out.trans (hb1.mono hNX)).alloc (Nat.le_trans hNX hb1.size) (.cells (evCells e (Value.slice q e.days.ex.length d) (Value.slice q2 e.days.xt.length d2)) 82))
          have HRf := Lib.hid (show RefT w.heap.size _ (e, (Value.slice q e.days.ex.length d), (Value.slice q2 e.days.xt.length d2)) from (show RefT w.heap.size X1 (e, (Value.slice q e.days.ex.length d), (Value.slice q2 e.days.xt.length d2)) from ⟨HEB.out, ownsRow_mono hX1 hNX, ownsRow_mono hY1 hNX⟩).alloc (.cells (evCells e (Value.slice q e.days.ex.length d) (Value.slice q2 e.days.xt.length d2)) 82))
          have HNB := Lib.hid (Blk.new X1 (evCells e (Value.slice q e.days.ex.length d) (Value.slice q2 e.days.xt.length d2)) 82)
          clear hX1 hY1 hb1 y0 y1 y2 y3 y4 y5 y6 y7 y8 y9 y10 y11 y12; unfold evVal evCells
          go_wp2_with (at_builtin; refine wpList_append_own_at _ rfl (.tmp 19) (.tmp 22) 22 rfl w.heap.size 82 i0 _ 13 160 Tryz.underlying22 hi hz0 hz1 hz2 rfl (by decide) _ _ _ rfl HT1.out.row ⟨X1.heap.size, 0, none⟩ 1 1 _ rfl rfl (blk_cells HNB.out) (evCells_one _ _ _ _ _ _ _) hA1 hA2 HL1.out.size ?_)
          intro v' x8 hown8 hgrow _ _; obtain ⟨p8, q8, hv8⟩ := ownsRow_len hown8
          subst hv8; have HT8 := Lib.hid (HT1.out.snoc HRf.out hgrow hown8)
          have HL8 := Lib.hid (below_grownBy HL1.out HT1.out.row (Nat.le_refl _) HL1.out.size hgrow)
          have HT9 := Lib.hid (show RowT w.heap.size x8 (.slice p8 (ts ++ [(e, (Value.slice q e.days.ex.length d), (Value.slice q2 e.days.xt.length d2))]).length q8) (ts ++ [(e, (Value.slice q e.days.ex.length d), (Value.slice q2 e.days.xt.length d2))]) from by rw [List.length_append]; exact HT8.out)
          clear hgrow hown8 HT1 HL1 HNB HT8 HRf; go_wp2_with fail
          go_roundw
          case rel => exact ⟨k + 1, p8, q8, ts ++ [(e, (Value.slice q e.days.ex.length d), (Value.slice q2 e.days.xt.length d2))], by simp, by go_num, by omega, HT9, Lib.hid (HF.out _ _), HL8⟩
          case measure => simp [intOf]; omega
        · have hcn := HB.out.symm; have HF := Lib.hid (show ts.map (·.1) = (es.take (k + 1)).filter (fun e => !e.canc) from by rw [shown_take es k e HFK.out, HM.out, hcn]; simp)
          clear hcn; go_wp2_with fail
          go_roundw
          case rel => exact ⟨k + 1, pu, cu, ts, rfl, by go_num, by omega, HTX, HF, HLX⟩
          case measure => simp [intOf]; omega
      · have hlti : ¬ (k : Int) < n := by omega
        have hkn : k = n := by omega
        have HSV := Lib.hid (show ts.map (·.1) = shownV rv es from by unfold shownV; rw [if_pos HOK.out, HM.out, hkn, ← HLN.out, List.take_length])
        clear hkn; go_wp2_with fail
        go_ret; exact ⟨pu, cu, ts, rfl, HSV.out, HT.out, HL.out⟩
  · have hok : rdOk rv es = false := by simpa using hok
    have hnk : (!rdOk rv es) = true := by rw [hok]; rfl
    have HSV := Lib.hid (show ([] : List Ev) = shownV rv es from by unfold shownV; rw [if_neg (by rw [hok]; simp)])
    go_wp2_with fail
    go_ret; exact ⟨none, 0, [], rfl, HSV.out, RowT.nil _ _, HL1.out⟩
end Go.Proofs.YtageielcdebjlaaGreatDoor
