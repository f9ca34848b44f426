/- The order of sessions in a published timetable: contracts of the program's and the reference's. -/
import Derived.Test.YtcomifbfldoeiaaGreatDoorPk17
import Derived.Test.YtcomifbfldoeiaaGreatDoorPk13
import Derived.Test.YtcomifbfldoeiaaGreatDoorPk10
namespace Go.Proofs.YtcomifbfldoeiaaGreatDoor
open Go.RowKit

theorem week_nat {s : Ses} (h : Tt.weeksB s.tim.weeks 20 = true) : s.tim.weeks = (s.tim.weeks.toNat : Int) ∧ s.tim.weeks.toNat ≠ 0 ∧ s.tim.weeks.toNat < 18446744073709551616 := by
  obtain ⟨h0, h1⟩ := Tt.weeks_bd h
  omega
theorem lowW_eq {s : Ses} (h : Tt.weeksB s.tim.weeks 20 = true) : lowW s = (Lib.ctz 64 s.tim.weeks.toNat : Int) + 1 := by
  unfold lowW
  rw [Tt.low_of_ctz h]
theorem lowW_bd {s : Ses} (h : Tt.weeksB s.tim.weeks 20 = true) : 1 ≤ lowW s ∧ lowW s ≤ 20 := by
  have := Tt.low_week h
  unfold lowW; omega
/-- The weeks of a set, from 1 on. -/
def wksL (w : Int) : Nat → List Int
  | 0 => []
  | k + 1 => wksL w k ++ (if Tt.bit w (k : Nat) = true then [(k : Int) + 1] else [])
theorem wksL_len (w : Int) : ∀ k : Nat, (wksL w k).length ≤ k
  | 0 => Nat.le_refl _
  | k + 1 => by
    rw [wksL, List.length_append]
    have := wksL_len w k
    split <;> simp <;> omega
theorem low_spec (w : Int) : ∀ (n k : Nat), (∃ i : Nat, k ≤ i ∧ i < k + n ∧ Tt.bit w (i : Nat) = true) → k ≤ Tt.lowB w n k ∧ Tt.bit w (Tt.lowB w n k : Nat) = true ∧ ∀ i : Nat, k ≤ i → i < Tt.lowB w n k → Tt.bit w (i : Nat) = false
  | 0, k, ⟨i, h1, h2, _⟩ => by omega
  | n + 1, k, ⟨i, h1, h2, h3⟩ => by
    rw [Tt.lowB]
    split
    · rename_i hb
      exact ⟨Nat.le_refl _, hb, fun i h1 h2 => by omega⟩
    · rename_i hb
      have hik : i ≠ k := fun e => hb (by rw [← e]; exact h3)
      obtain ⟨g1, g2, g3⟩ := low_spec w n (k + 1) ⟨i, by omega, by omega, h3⟩
      refine ⟨by omega, g2, fun j h1 h2 => ?_⟩
      rcases Nat.lt_or_ge k j with h | h
      · exact g3 j h h2
      · obtain rfl : j = k := by omega
        simpa using hb
theorem wksL_before {w : Int} {m : Nat} (h : ∀ i : Nat, i < m → Tt.bit w (i : Nat) = false) : ∀ k : Nat, k ≤ m → wksL w k = []
  | 0, _ => rfl
  | k + 1, hk => by rw [wksL, wksL_before h k (by omega), if_neg (by rw [h k (by omega)]; decide)]; rfl
theorem wksL_from {w : Int} {m : Nat} (h : ∀ i : Nat, i < m → Tt.bit w (i : Nat) = false) (hm : Tt.bit w (m : Nat) = true) : ∀ d : Nat, ∃ r, wksL w (m + 1 + d) = ((m : Int) + 1) :: r
  | 0 => ⟨[], by rw [Nat.add_zero, wksL, wksL_before h m (Nat.le_refl _), if_pos hm]; rfl⟩
  | d + 1 => by
    obtain ⟨r, hr⟩ := wksL_from h hm d
    exact ⟨r ++ _, by rw [show m + 1 + (d + 1) = (m + 1 + d) + 1 by omega, wksL, hr]; rfl⟩
theorem wksL_first {w : Int} (h : Tt.weeksB w 20 = true) : ∃ r, wksL w 20 = ((Tt.lowB w 20 0 : Nat) + 1 : Int) :: r := by
  have hs := Tt.weeks_some h; have hx : ∃ i : Nat, 0 ≤ i ∧ i < 0 + 20 ∧ Tt.bit w (i : Nat) = true := by
    apply Classical.byContradiction
    intro hc; apply hs
    intro i hi; cases hb : Tt.bit w (i : Nat) with
    | false => rfl
    | true => exact absurd ⟨i, Nat.zero_le _, by omega, hb⟩ hc
  obtain ⟨_, g2, g3⟩ := low_spec w 20 0 hx
  have hl := Tt.low_week h; obtain ⟨r, hr⟩ := wksL_from (fun i hi => g3 i (Nat.zero_le _) hi) g2 (19 - Tt.lowB w 20 0)
  exact ⟨r, by rw [← hr]; congr 1; omega⟩
theorem fillB {g : Nat} {ty : TypeId} {cs : Array Value} {w0 w : World} (h : Blk g cs ty w) (hb : Below w0.heap.size w0 w) (hg : w0.heap.size ≤ g) (vs : List Value) (hl : cs.size = vs.length) : ∃ Y, Y = setAll w g 0 vs ∧ Blk g vs.toArray ty Y ∧ Below w0.heap.size w0 Y := by
  refine ⟨_, rfl, ?_, below_setAll hg vs 0 w hb⟩
  have := Blk.puts (g := g) (ty := ty) vs [] cs.toList [] w (by simpa using h) (by simpa using hl)
  simpa using this
set_option maxHeartbeats 4000000 in
set_option maxRecDepth 100000 in
theorem date196 (s : Ses) (w : World) (hw : Tt.weeksB s.tim.weeks 20 = true) (hT : Tz w) (h6 : 6 < w.heap.size) : Calls Tryz.prog 140 #[sesVal s] w fun e w' => e = .returned (.agg #[.string s.cls, .int .i64 s.tim.weeks, .int .i64 s.tim.day, .int .i64 s.tim.start, .int .i64 s.tim.len, .string s.room, .int .i64 (lowW s)]) ∧ Below w.heap.size w w' := by
  obtain ⟨X, hX⟩ : ∃ x, x = w.heap.size := ⟨_, rfl⟩
  obtain ⟨Y, hY⟩ : ∃ x, x = w.heap.size + 1 := ⟨_, rfl⟩
  obtain ⟨w0, hw0⟩ : ∃ x, x = (w.alloc (.cells #[.string s.cls, .int .i64 s.tim.weeks, .int .i64 s.tim.day, .int .i64 s.tim.start, .int .i64 s.tim.len, .string s.room] 110)).alloc (.cells #[.string ⟨#[]⟩, .int .i64 0, .int .i64 0, .int .i64 0, .int .i64 0, .string ⟨#[]⟩, .int .i64 0] 216) := ⟨_, rfl⟩
  have HX0 := Lib.hid (show Blk X #[.string s.cls, .int .i64 s.tim.weeks, .int .i64 s.tim.day, .int .i64 s.tim.start, .int .i64 s.tim.len, .string s.room] 110 w0 from by rw [hw0, hX]; exact (Blk.new w _ _).alloc _)
  have HY0 := Lib.hid (show Blk Y #[.string ⟨#[]⟩, .int .i64 0, .int .i64 0, .int .i64 0, .int .i64 0, .string ⟨#[]⟩, .int .i64 0] 216 w0 from by rw [hw0, hY]; exact Blk.new' _ _ _ (by simp))
  have HL0 := Lib.hid (show Below w.heap.size w w0 from by rw [hw0]; exact (below_box w _).trans ((below_box _ _).mono (by simp)))
  have hYl : w.heap.size ≤ Y := by omega
  have hXY : X ≠ Y := by omega
  obtain ⟨e1, e2, e3⟩ := week_nat hw
  have e4 := (Tt.weeks_bd hw).2
  have HE := Lib.hid (lowW_eq hw)
  have HB := Lib.hid (lowW_bd hw)
  obtain ⟨k, hk⟩ : ∃ k, k = s.tim.weeks.toNat := ⟨_, rfl⟩
  rw [← hk] at e1 e2 e3 HE
  have HT := Lib.hid (fun (W : World) (hW : Below w0.heap.size w0 W) => tz269 k W e3 e2 ((hT.below h6 HL0.out).below (Nat.lt_of_lt_of_le h6 HL0.out.size) hW))
  clear hT hk hw; unfold sesVal sesCells
  rw [e1] at e4 HX0 hw0 ⊢
  clear e1 e2 e3 h6; obtain ⟨m, hm⟩ : ∃ m, m = Lib.ctz 64 k := ⟨_, rfl⟩
  rw [← hm] at HT HE
  have hb := HB.out; rw [HE.out] at hb ⊢
  clear hm HB HE; go_enter Tryz.func140, Tryz.ntmps140
  go_upto_region 1 with (fail)
  rw [← hw0, ← hY, ← hX]; clear hw0 hX hY; refine wp_region_tail 8 (by kernel_rfl) (fun listed a x => ∃ (l0 l1 l2 l3 l4 l5 l6 l7 : Bool) (t3 t4 t5 t6 t7 t8 t9 t10 : Value), listed = #[l0, l1, l2, l3, l4, l5, l6, l7, false] ∧ a = ⟨(.agg #[.string s.cls, .int .i64 k, .int .i64 s.tim.day, .int .i64 s.tim.start, .int .i64 s.tim.len, .string s.room] :: .pointer (some ⟨X, 0, none⟩) :: .pointer (some ⟨Y, 0, none⟩) :: t3 :: t4 :: t5 :: t6 :: t7 :: t8 :: t9 :: t10 :: []).toArray, []⟩ ∧ Hid (l0 = true → t3 = .agg #[.string s.cls, .int .i64 k, .int .i64 s.tim.day, .int .i64 s.tim.start, .int .i64 s.tim.len, .string s.room]) ∧ Hid (l1 = true → t4 = .pointer (some ⟨X, 1, none⟩)) ∧ Hid (l2 = true → t5 = .pointer (some ⟨X, 1, none⟩)) ∧ Hid (l3 = true → t6 = .int .i64 k) ∧ Hid (l4 = true → t7 = .int .u64 k) ∧ Hid (l5 = true → t8 = .int .i64 m) ∧ Hid (l6 = true → t9 = .int .i64 (m + 1)) ∧ Hid (l7 = true → t10 = .agg #[.string s.cls, .int .i64 k, .int .i64 s.tim.day, .int .i64 s.tim.start, .int .i64 s.tim.len, .string s.room, .int .i64 (m + 1)]) ∧ Hid (Made w0 x)) (by decide) (by kernel_rfl) (by kernel_rfl) ?_ ?_ ?_ ?_
  · exact ⟨false, false, false, false, false, false, false, false, _, _, _, _, _, _, _, _, rfl, rfl, Lib.hid (fun h => by cases h), Lib.hid (fun h => by cases h), Lib.hid (fun h => by cases h), Lib.hid (fun h => by cases h), Lib.hid (fun h => by cases h), Lib.hid (fun h => by cases h), Lib.hid (fun h => by cases h), Lib.hid (fun h => by cases h), Lib.hid (Made.start w0)⟩
  · intro listed a x hj; obtain ⟨l0, hj⟩ := hj
    obtain ⟨l1, hj⟩ := hj; obtain ⟨l2, hj⟩ := hj; obtain ⟨l3, hj⟩ := hj; obtain ⟨l4, hj⟩ := hj; obtain ⟨l5, hj⟩ := hj; obtain ⟨l6, hj⟩ := hj; obtain ⟨l7, hj⟩ := hj; obtain ⟨t3, hj⟩ := hj; obtain ⟨t4, hj⟩ := hj; obtain ⟨t5, hj⟩ := hj; obtain ⟨t6, hj⟩ := hj; obtain ⟨t7, hj⟩ := hj; obtain ⟨t8, hj⟩ := hj; obtain ⟨t9, hj⟩ := hj; obtain ⟨t10, hj⟩ := hj; obtain ⟨h1, -⟩ := hj; subst h1; exact ⟨rfl, fun k h1 h2 => by (have h2 : k < 9 := h2); obtain rfl : k = 8 := (by omega); rfl⟩
  · intro listed a x i hj hlt hu haf; obtain ⟨l0, hj⟩ := hj
    obtain ⟨l1, hj⟩ := hj; obtain ⟨l2, hj⟩ := hj; obtain ⟨l3, hj⟩ := hj; obtain ⟨l4, hj⟩ := hj; obtain ⟨l5, hj⟩ := hj; obtain ⟨l6, hj⟩ := hj; obtain ⟨l7, hj⟩ := hj; obtain ⟨t3, hj⟩ := hj; obtain ⟨t4, hj⟩ := hj; obtain ⟨t5, hj⟩ := hj; obtain ⟨t6, hj⟩ := hj; obtain ⟨t7, hj⟩ := hj; obtain ⟨t8, hj⟩ := hj; obtain ⟨t9, hj⟩ := hj; obtain ⟨t10, hj⟩ := hj; obtain ⟨hl_, hj⟩ := hj; obtain ⟨ha_, hj⟩ := hj; obtain ⟨H0, hj⟩ := hj; obtain ⟨H1, hj⟩ := hj; obtain ⟨H2, hj⟩ := hj; obtain ⟨H3, hj⟩ := hj; obtain ⟨H4, hj⟩ := hj; obtain ⟨H5, hj⟩ := hj; obtain ⟨H6, hj⟩ := hj; obtain ⟨H7, hj⟩ := hj; have HS := hj; clear hj; subst hl_; subst ha_; rcases (show ∀ i : Nat, i < 8 → (i = 0 ∨ i = 1 ∨ i = 2 ∨ i = 3 ∨ i = 4 ∨ i = 5 ∨ i = 6 ∨ i = 7) by decide) i hlt with rfl | rfl | rfl | rfl | rfl | rfl | rfl | rfl
    · have haf := haf _ rfl; clear haf
      have hu : l0 = false := hu
      have x0 : x.cell? ⟨X, 0, none⟩ = some (.string s.cls) := (HX0.out.below HS.out.below HX0.out.lt).cell 0
      have x1 : x.cell? ⟨X, 1, none⟩ = some (.int .i64 k) := (HX0.out.below HS.out.below HX0.out.lt).cell 1
      have x2 : x.cell? ⟨X, 2, none⟩ = some (.int .i64 s.tim.day) := (HX0.out.below HS.out.below HX0.out.lt).cell 2
      have x3 : x.cell? ⟨X, 3, none⟩ = some (.int .i64 s.tim.start) := (HX0.out.below HS.out.below HX0.out.lt).cell 3
      have x4 : x.cell? ⟨X, 4, none⟩ = some (.int .i64 s.tim.len) := (HX0.out.below HS.out.below HX0.out.lt).cell 4
      have x5 : x.cell? ⟨X, 5, none⟩ = some (.string s.room) := (HX0.out.below HS.out.below HX0.out.lt).cell 5
      refine wpOp_of_list_any rfl fun QQ hQ => ?_
      have hQQ := Lib.hid hQ; clear hQ; simp only [List.getElem_toArray, List.getElem_cons_zero]
      go_wp2_with fail
      exact hQQ.out _ _ ⟨true, l1, l2, l3, l4, l5, l6, l7, _, _, _, _, _, _, _, _, rfl, rfl, Lib.hid (fun _ => rfl), H1, H2, H3, H4, H5, H6, H7, HS⟩
    · have haf := haf _ rfl; clear haf
      have hu : l1 = false := hu
      refine wpOp_of_list_any rfl fun QQ hQ => ?_
      have hQQ := Lib.hid hQ; clear hQ; simp only [List.getElem_toArray, List.getElem_cons_zero, List.getElem_cons_succ]
      go_wp2_with fail
      exact hQQ.out _ _ ⟨l0, true, l2, l3, l4, l5, l6, l7, _, _, _, _, _, _, _, _, rfl, rfl, H0, Lib.hid (fun _ => rfl), H2, H3, H4, H5, H6, H7, HS⟩
    · have haf := haf _ rfl; have q1 : l1 = true := haf ⟨1, Go.Ground.data⟩ (by simp) rfl
      clear haf; have hu : l2 = false := hu
      have e1 := (H1.out q1)
      subst e1; clear H1; refine wpOp_of_list_any rfl fun QQ hQ => ?_
      have hQQ := Lib.hid hQ; clear hQ; simp only [List.getElem_toArray, List.getElem_cons_zero, List.getElem_cons_succ]
      go_wp2_with fail
      exact hQQ.out _ _ ⟨l0, l1, true, l3, l4, l5, l6, l7, _, _, _, _, _, _, _, _, rfl, rfl, H0, Lib.hid (fun _ => rfl), Lib.hid (fun _ => rfl), H3, H4, H5, H6, H7, HS⟩
    · have haf := haf _ rfl; have q2 : l2 = true := haf ⟨2, Go.Ground.data⟩ (by simp) rfl
      clear haf; have hu : l3 = false := hu
      have e2 := (H2.out q2)
      subst e2; clear H2; have x0 : x.cell? ⟨X, 0, none⟩ = some (.string s.cls) := (HX0.out.below HS.out.below HX0.out.lt).cell 0
      have x1 : x.cell? ⟨X, 1, none⟩ = some (.int .i64 k) := (HX0.out.below HS.out.below HX0.out.lt).cell 1
      have x2 : x.cell? ⟨X, 2, none⟩ = some (.int .i64 s.tim.day) := (HX0.out.below HS.out.below HX0.out.lt).cell 2
      have x3 : x.cell? ⟨X, 3, none⟩ = some (.int .i64 s.tim.start) := (HX0.out.below HS.out.below HX0.out.lt).cell 3
      have x4 : x.cell? ⟨X, 4, none⟩ = some (.int .i64 s.tim.len) := (HX0.out.below HS.out.below HX0.out.lt).cell 4
      have x5 : x.cell? ⟨X, 5, none⟩ = some (.string s.room) := (HX0.out.below HS.out.below HX0.out.lt).cell 5
      refine wpOp_of_list_any rfl fun QQ hQ => ?_
      have hQQ := Lib.hid hQ; clear hQ; simp only [List.getElem_toArray, List.getElem_cons_zero, List.getElem_cons_succ]
      go_wp2_with fail
      exact hQQ.out _ _ ⟨l0, l1, l2, true, l4, l5, l6, l7, _, _, _, _, _, _, _, _, rfl, rfl, H0, H1, Lib.hid (fun _ => rfl), Lib.hid (fun _ => rfl), H4, H5, H6, H7, HS⟩
    · have haf := haf _ rfl; have q3 : l3 = true := haf ⟨3, Go.Ground.data⟩ (by simp) rfl
      clear haf; have hu : l4 = false := hu
      have e3 := (H3.out q3)
      subst e3; clear H3; refine wpOp_of_list_any rfl fun QQ hQ => ?_
      have hQQ := Lib.hid hQ; clear hQ; simp only [List.getElem_toArray, List.getElem_cons_zero, List.getElem_cons_succ]
      go_wp2_with fail
      exact hQQ.out _ _ ⟨l0, l1, l2, l3, true, l5, l6, l7, _, _, _, _, _, _, _, _, rfl, rfl, H0, H1, H2, Lib.hid (fun _ => rfl), Lib.hid (fun _ => rfl), H5, H6, H7, HS⟩
    · have haf := haf _ rfl; have q4 : l4 = true := haf ⟨4, Go.Ground.data⟩ (by simp) rfl
      clear haf; have hu : l5 = false := hu
      have e4 := (H4.out q4)
      subst e4; clear H4; refine wpOp_of_list_any rfl fun QQ hQ => ?_
      have hQQ := Lib.hid hQ; clear hQ; simp only [List.getElem_toArray, List.getElem_cons_zero, List.getElem_cons_succ]
      go_wp2_with fail
      refine (HT.out x HS.out.below).mono ?_
      rintro e x1 ⟨rfl, hx⟩; rw [hx]
      clear hx x1; go_wp2_with fail
      exact hQQ.out _ _ ⟨l0, l1, l2, l3, l4, true, l6, l7, _, _, _, _, _, _, _, _, rfl, rfl, H0, H1, H2, H3, Lib.hid (fun _ => rfl), Lib.hid (fun _ => rfl), H6, H7, HS⟩
    · have haf := haf _ rfl; have q5 : l5 = true := haf ⟨5, Go.Ground.data⟩ (by simp) rfl
      clear haf; have hu : l6 = false := hu
      have e5 := (H5.out q5)
      subst e5; clear H5; refine wpOp_of_list_any rfl fun QQ hQ => ?_
      have hQQ := Lib.hid hQ; clear hQ; simp only [List.getElem_toArray, List.getElem_cons_zero, List.getElem_cons_succ]
      go_wp2_with fail
      exact hQQ.out _ _ ⟨l0, l1, l2, l3, l4, l5, true, l7, _, _, _, _, _, _, _, _, rfl, rfl, H0, H1, H2, H3, H4, Lib.hid (fun _ => rfl), Lib.hid (fun _ => rfl), H7, HS⟩
    · have haf := haf _ rfl; have q0 : l0 = true := haf ⟨0, Go.Ground.data⟩ (by simp) rfl
      have q6 : l6 = true := haf ⟨6, Go.Ground.data⟩ (by simp) rfl
      clear haf; have hu : l7 = false := hu
      have e0 := (H0.out q0)
      subst e0; clear H0; have e6 := (H6.out q6)
      subst e6; clear H6; refine wpOp_of_list_any rfl fun QQ hQ => ?_
      have hQQ := Lib.hid hQ; clear hQ; simp only [List.getElem_toArray, List.getElem_cons_zero, List.getElem_cons_succ]
      go_wp2_with fail
      exact hQQ.out _ _ ⟨l0, l1, l2, l3, l4, l5, l6, true, _, _, _, _, _, _, _, _, rfl, rfl, Lib.hid (fun _ => rfl), H1, H2, H3, H4, H5, Lib.hid (fun _ => rfl), Lib.hid (fun _ => rfl), HS⟩
  · intro listed a x hj hall; obtain ⟨l0, hj⟩ := hj
    obtain ⟨l1, hj⟩ := hj; obtain ⟨l2, hj⟩ := hj; obtain ⟨l3, hj⟩ := hj; obtain ⟨l4, hj⟩ := hj; obtain ⟨l5, hj⟩ := hj; obtain ⟨l6, hj⟩ := hj; obtain ⟨l7, hj⟩ := hj; obtain ⟨t3, hj⟩ := hj; obtain ⟨t4, hj⟩ := hj; obtain ⟨t5, hj⟩ := hj; obtain ⟨t6, hj⟩ := hj; obtain ⟨t7, hj⟩ := hj; obtain ⟨t8, hj⟩ := hj; obtain ⟨t9, hj⟩ := hj; obtain ⟨t10, hj⟩ := hj; obtain ⟨hl_, hj⟩ := hj; obtain ⟨ha_, hj⟩ := hj; obtain ⟨H0, hj⟩ := hj; obtain ⟨H1, hj⟩ := hj; obtain ⟨H2, hj⟩ := hj; obtain ⟨H3, hj⟩ := hj; obtain ⟨H4, hj⟩ := hj; obtain ⟨H5, hj⟩ := hj; obtain ⟨H6, hj⟩ := hj; obtain ⟨H7, hj⟩ := hj; have HS := hj; clear hj; subst hl_; subst ha_; have q7 : l7 = true := hall 7 (by omega)
    clear hall; have e7 := (H7.out q7)
    subst e7; have HY1 := Lib.hid (HY0.out.below HS.out.below HY0.out.lt)
    have HL1 := Lib.hid (HL0.out.trans (HS.out.below.mono HL0.out.size))
    have y0 := HY1.out.cell 0; have y1 := HY1.out.cell 1; have y2 := HY1.out.cell 2; have y3 := HY1.out.cell 3; have y4 := HY1.out.cell 4; have y5 := HY1.out.cell 5; have y6 := HY1.out.cell 6; have f0 := HY1.out.frozen 0; have f1 := HY1.out.frozen 1; have f2 := HY1.out.frozen 2; have f3 := HY1.out.frozen 3; have f4 := HY1.out.frozen 4; have f5 := HY1.out.frozen 5; have f6 := HY1.out.frozen 6; simp only [List.getElem?_toArray, List.getElem?_cons_zero, List.getElem?_cons_succ] at y0 y1 y2 y3 y4 y5 y6
    obtain ⟨V, hV, hBk, hE⟩ := fillB HY1.out HL1.out hYl [.string s.cls, .int .i64 k, .int .i64 s.tim.day, .int .i64 s.tim.start, .int .i64 s.tim.len, .string s.room, .int .i64 (m + 1)] rfl
    have HBk := Lib.hid hBk; have HE := Lib.hid hE; clear hBk hE; simp only [setAll, Nat.zero_add, Nat.reduceAdd] at hV
    refine tail_any (fun a x => ∃ (t3 t4 t5 t6 t7 t8 t9 t10 : Value), a = ⟨(.agg #[.string s.cls, .int .i64 k, .int .i64 s.tim.day, .int .i64 s.tim.start, .int .i64 s.tim.len, .string s.room] :: .pointer (some ⟨X, 0, none⟩) :: .pointer (some ⟨Y, 0, none⟩) :: t3 :: t4 :: t5 :: t6 :: t7 :: t8 :: t9 :: t10 :: []).toArray, []⟩ ∧ Blk Y #[.string s.cls, .int .i64 k, .int .i64 s.tim.day, .int .i64 s.tim.start, .int .i64 s.tim.len, .string s.room, .int .i64 (m + 1)] 216 x ∧ Below w.heap.size w x) ?_ fun QQ hQ => ?_
    · intro a x hpost; obtain ⟨t3, hpost⟩ := hpost
      obtain ⟨t4, hpost⟩ := hpost; obtain ⟨t5, hpost⟩ := hpost; obtain ⟨t6, hpost⟩ := hpost; obtain ⟨t7, hpost⟩ := hpost; obtain ⟨t8, hpost⟩ := hpost; obtain ⟨t9, hpost⟩ := hpost; obtain ⟨t10, hpost⟩ := hpost; obtain ⟨ha_, hpost⟩ := hpost; subst ha_; obtain ⟨hBk, hE⟩ := hpost; go_wp2_with fail
      have r0 := hBk.cell 0; have r1 := hBk.cell 1; have r2 := hBk.cell 2; have r3 := hBk.cell 3; have r4 := hBk.cell 4; have r5 := hBk.cell 5; have r6 := hBk.cell 6; simp only [List.getElem?_toArray, List.getElem?_cons_zero, List.getElem?_cons_succ] at r0 r1 r2 r3 r4 r5 r6
      exact bodyPost_ret (v := .agg #[.string s.cls, .int .i64 k, .int .i64 s.tim.day, .int .i64 s.tim.start, .int .i64 s.tim.len, .string s.room, .int .i64 (m + 1)]) (by simp [results, Tryz.results140, go_sem, r0, r1, r2, r3, r4, r5, r6]) rfl ⟨rfl, hE⟩
    have hQQ := Lib.hid hQ; clear hQ; simp only [List.drop_succ_cons, List.drop_zero]
    go_wp2_with fail
    rw [← hV]; clear hV; exact hQQ.out _ _ ⟨_, _, _, _, _, _, _, _, rfl, HBk.out, HE.out⟩
set_option maxHeartbeats 4000000 in
set_option maxRecDepth 100000 in
theorem order195 (sa sb : Ses) (la lb : Int) (w : World) : Calls Tryz.prog 139 #[.agg #[.string sa.cls, .int .i64 sa.tim.weeks, .int .i64 sa.tim.day, .int .i64 sa.tim.start, .int .i64 sa.tim.len, .string sa.room, .int .i64 la], .agg #[.string sb.cls, .int .i64 sb.tim.weeks, .int .i64 sb.tim.day, .int .i64 sb.tim.start, .int .i64 sb.tim.len, .string sb.room, .int .i64 lb]] w fun e w' => e = .returned (.int .i64 (if cmpS sa.cls sb.cls ≠ 0 then cmpS sa.cls sb.cls else Lib.compareInt la lb)) ∧ Below w.heap.size w w' := by
  obtain ⟨X, hX⟩ : ∃ x, x = w.heap.size := ⟨_, rfl⟩
  obtain ⟨Y, hY⟩ : ∃ x, x = w.heap.size + 1 := ⟨_, rfl⟩
  obtain ⟨w0, hw0⟩ : ∃ x, x = (w.alloc (.cells #[.string sa.cls, .int .i64 sa.tim.weeks, .int .i64 sa.tim.day, .int .i64 sa.tim.start, .int .i64 sa.tim.len, .string sa.room, .int .i64 la] 216)).alloc (.cells #[.string sb.cls, .int .i64 sb.tim.weeks, .int .i64 sb.tim.day, .int .i64 sb.tim.start, .int .i64 sb.tim.len, .string sb.room, .int .i64 lb] 216) := ⟨_, rfl⟩
  have HX0 := Lib.hid (show Blk X #[.string sa.cls, .int .i64 sa.tim.weeks, .int .i64 sa.tim.day, .int .i64 sa.tim.start, .int .i64 sa.tim.len, .string sa.room, .int .i64 la] 216 w0 from by rw [hw0, hX]; exact (Blk.new w _ _).alloc _)
  have HY0 := Lib.hid (show Blk Y #[.string sb.cls, .int .i64 sb.tim.weeks, .int .i64 sb.tim.day, .int .i64 sb.tim.start, .int .i64 sb.tim.len, .string sb.room, .int .i64 lb] 216 w0 from by rw [hw0, hY]; exact Blk.new' _ _ _ (by simp))
  have HL0 := Lib.hid (show Below w.heap.size w w0 from by rw [hw0]; exact (below_box w _).trans ((below_box _ _).mono (by simp)))
  obtain ⟨cc, hcc⟩ : ∃ c, c = cmpS sa.cls sb.cls := ⟨_, rfl⟩
  have HC1 := Lib.hid (cmp267 sa.cls sb.cls)
  rw [← hcc] at HC1 ⊢
  obtain ⟨dd, hdd⟩ : ∃ c, c = Lib.compareInt la lb := ⟨_, rfl⟩
  have HC2 := Lib.hid (Tryz.cmp_Compare_int la lb)
  rw [← hdd] at HC2 ⊢
  obtain ⟨ff, hff⟩ : ∃ c, c = (if cc ≠ 0 then cc else dd) := ⟨_, rfl⟩
  have HC3 := Lib.hid (fun (g : Nat) (W : World) => or266 g cc dd W)
  rw [← hff] at HC3 ⊢
  clear hcc hdd hff; go_enter Tryz.func139, Tryz.ntmps139
  go_upto_region 1 with (fail)
  rw [← hw0, ← hY, ← hX]; clear hw0 hX hY; refine wp_region_tail 11 (by kernel_rfl) (fun listed a x => ∃ (l0 l1 l2 l3 l4 l5 l6 l7 l8 l9 l10 : Bool) (t5 t6 t7 t8 t9 t10 t11 t12 t13 t14 t15 : Value), listed = #[l0, l1, l2, l3, l4, l5, l6, l7, l8, l9, l10, false, false, false, false] ∧ a = ⟨(.agg #[.string sa.cls, .int .i64 sa.tim.weeks, .int .i64 sa.tim.day, .int .i64 sa.tim.start, .int .i64 sa.tim.len, .string sa.room, .int .i64 la] :: .agg #[.string sb.cls, .int .i64 sb.tim.weeks, .int .i64 sb.tim.day, .int .i64 sb.tim.start, .int .i64 sb.tim.len, .string sb.room, .int .i64 lb] :: .pointer (some ⟨X, 0, none⟩) :: .pointer (some ⟨Y, 0, none⟩) :: .int .i64 0 :: t5 :: t6 :: t7 :: t8 :: t9 :: t10 :: t11 :: t12 :: t13 :: t14 :: t15 :: undef :: undef :: undef :: []).toArray, []⟩ ∧ Hid (l0 = true → t5 = .pointer (some ⟨X, 0, none⟩)) ∧ Hid (l1 = true → t6 = .pointer (some ⟨X, 0, none⟩)) ∧ Hid (l2 = true → t7 = .string sa.cls) ∧ Hid (l3 = true → t8 = .pointer (some ⟨Y, 0, none⟩)) ∧ Hid (l4 = true → t9 = .pointer (some ⟨Y, 0, none⟩)) ∧ Hid (l5 = true → t10 = .string sb.cls) ∧ Hid (l6 = true → t11 = .int .i64 cc) ∧ Hid (l7 = true → t12 = .pointer (some ⟨X, 6, none⟩)) ∧ Hid (l8 = true → t13 = .int .i64 la) ∧ Hid (l9 = true → t14 = .pointer (some ⟨Y, 6, none⟩)) ∧ Hid (l10 = true → t15 = .int .i64 lb) ∧ Hid (Made w0 x)) (by decide) (by kernel_rfl) (by kernel_rfl) ?_ ?_ ?_ ?_
  · exact ⟨false, false, false, false, false, false, false, false, false, false, false, _, _, _, _, _, _, _, _, _, _, _, rfl, rfl, Lib.hid (fun h => by cases h), Lib.hid (fun h => by cases h), Lib.hid (fun h => by cases h), Lib.hid (fun h => by cases h), Lib.hid (fun h => by cases h), Lib.hid (fun h => by cases h), Lib.hid (fun h => by cases h), Lib.hid (fun h => by cases h), Lib.hid (fun h => by cases h), Lib.hid (fun h => by cases h), Lib.hid (fun h => by cases h), Lib.hid (Made.start w0)⟩
  · intro listed a x hj; obtain ⟨l0, hj⟩ := hj
    obtain ⟨l1, hj⟩ := hj; obtain ⟨l2, hj⟩ := hj; obtain ⟨l3, hj⟩ := hj; obtain ⟨l4, hj⟩ := hj; obtain ⟨l5, hj⟩ := hj; obtain ⟨l6, hj⟩ := hj; obtain ⟨l7, hj⟩ := hj; obtain ⟨l8, hj⟩ := hj; obtain ⟨l9, hj⟩ := hj; obtain ⟨l10, hj⟩ := hj; obtain ⟨t5, hj⟩ := hj; obtain ⟨t6, hj⟩ := hj; obtain ⟨t7, hj⟩ := hj; obtain ⟨t8, hj⟩ := hj; obtain ⟨t9, hj⟩ := hj; obtain ⟨t10, hj⟩ := hj; obtain ⟨t11, hj⟩ := hj; obtain ⟨t12, hj⟩ := hj; obtain ⟨t13, hj⟩ := hj; obtain ⟨t14, hj⟩ := hj; obtain ⟨t15, hj⟩ := hj; obtain ⟨h1, -⟩ := hj; subst h1; exact ⟨rfl, fun k h1 h2 => by (have h2 : k < 15 := h2); rcases (show k = 11 ∨ k = 12 ∨ k = 13 ∨ k = 14 by omega) with rfl | rfl | rfl | rfl <;> rfl⟩
  · intro listed a x i hj hlt hu haf; obtain ⟨l0, hj⟩ := hj
    obtain ⟨l1, hj⟩ := hj; obtain ⟨l2, hj⟩ := hj; obtain ⟨l3, hj⟩ := hj; obtain ⟨l4, hj⟩ := hj; obtain ⟨l5, hj⟩ := hj; obtain ⟨l6, hj⟩ := hj; obtain ⟨l7, hj⟩ := hj; obtain ⟨l8, hj⟩ := hj; obtain ⟨l9, hj⟩ := hj; obtain ⟨l10, hj⟩ := hj; obtain ⟨t5, hj⟩ := hj; obtain ⟨t6, hj⟩ := hj; obtain ⟨t7, hj⟩ := hj; obtain ⟨t8, hj⟩ := hj; obtain ⟨t9, hj⟩ := hj; obtain ⟨t10, hj⟩ := hj; obtain ⟨t11, hj⟩ := hj; obtain ⟨t12, hj⟩ := hj; obtain ⟨t13, hj⟩ := hj; obtain ⟨t14, hj⟩ := hj; obtain ⟨t15, hj⟩ := hj; obtain ⟨hl_, hj⟩ := hj; obtain ⟨ha_, hj⟩ := hj; obtain ⟨H0, hj⟩ := hj; obtain ⟨H1, hj⟩ := hj; obtain ⟨H2, hj⟩ := hj; obtain ⟨H3, hj⟩ := hj; obtain ⟨H4, hj⟩ := hj; obtain ⟨H5, hj⟩ := hj; obtain ⟨H6, hj⟩ := hj; obtain ⟨H7, hj⟩ := hj; obtain ⟨H8, hj⟩ := hj; obtain ⟨H9, hj⟩ := hj; obtain ⟨H10, hj⟩ := hj; have HS := hj; clear hj; subst hl_; subst ha_; rcases (show ∀ i : Nat, i < 11 → (i = 0 ∨ i = 1 ∨ i = 2 ∨ i = 3 ∨ i = 4 ∨ i = 5 ∨ i = 6 ∨ i = 7 ∨ i = 8 ∨ i = 9 ∨ i = 10) by decide) i hlt with rfl | rfl | rfl | rfl | rfl | rfl | rfl | rfl | rfl | rfl | rfl
    · have haf := haf _ rfl; clear haf
      have hu : l0 = false := hu
      refine wpOp_of_list_any rfl fun QQ hQ => ?_
      have hQQ := Lib.hid hQ; clear hQ; simp only [List.getElem_toArray, List.getElem_cons_zero]
      go_wp2_with fail
      exact hQQ.out _ _ ⟨true, l1, l2, l3, l4, l5, l6, l7, l8, l9, l10, _, _, _, _, _, _, _, _, _, _, _, rfl, rfl, Lib.hid (fun _ => rfl), H1, H2, H3, H4, H5, H6, H7, H8, H9, H10, HS⟩
    · have haf := haf _ rfl; have q0 : l0 = true := haf ⟨0, Go.Ground.data⟩ (by simp) rfl
      clear haf; have hu : l1 = false := hu
      have e0 := (H0.out q0)
      subst e0; clear H0; refine wpOp_of_list_any rfl fun QQ hQ => ?_
      have hQQ := Lib.hid hQ; clear hQ; simp only [List.getElem_toArray, List.getElem_cons_zero, List.getElem_cons_succ]
      go_wp2_with fail
      exact hQQ.out _ _ ⟨l0, true, l2, l3, l4, l5, l6, l7, l8, l9, l10, _, _, _, _, _, _, _, _, _, _, _, rfl, rfl, Lib.hid (fun _ => rfl), Lib.hid (fun _ => rfl), H2, H3, H4, H5, H6, H7, H8, H9, H10, HS⟩
    · have haf := haf _ rfl; have q1 : l1 = true := haf ⟨1, Go.Ground.data⟩ (by simp) rfl
      clear haf; have hu : l2 = false := hu
      have e1 := (H1.out q1)
      subst e1; clear H1; have hc : x.cell? ⟨X, 0, none⟩ = some (.string sa.cls) := (HX0.out.below HS.out.below HX0.out.lt).cell 0
      refine wpOp_of_list_any rfl fun QQ hQ => ?_
      have hQQ := Lib.hid hQ; clear hQ; simp only [List.getElem_toArray, List.getElem_cons_zero, List.getElem_cons_succ]
      go_wp2_with fail
      exact hQQ.out _ _ ⟨l0, l1, true, l3, l4, l5, l6, l7, l8, l9, l10, _, _, _, _, _, _, _, _, _, _, _, rfl, rfl, H0, Lib.hid (fun _ => rfl), Lib.hid (fun _ => rfl), H3, H4, H5, H6, H7, H8, H9, H10, HS⟩
    · have haf := haf _ rfl; clear haf
      have hu : l3 = false := hu
      refine wpOp_of_list_any rfl fun QQ hQ => ?_
      have hQQ := Lib.hid hQ; clear hQ; simp only [List.getElem_toArray, List.getElem_cons_zero, List.getElem_cons_succ]
      go_wp2_with fail
      exact hQQ.out _ _ ⟨l0, l1, l2, true, l4, l5, l6, l7, l8, l9, l10, _, _, _, _, _, _, _, _, _, _, _, rfl, rfl, H0, H1, H2, Lib.hid (fun _ => rfl), H4, H5, H6, H7, H8, H9, H10, HS⟩
    · have haf := haf _ rfl; have q3 : l3 = true := haf ⟨3, Go.Ground.data⟩ (by simp) rfl
      clear haf; have hu : l4 = false := hu
      have e3 := (H3.out q3)
      subst e3; clear H3; refine wpOp_of_list_any rfl fun QQ hQ => ?_
      have hQQ := Lib.hid hQ; clear hQ; simp only [List.getElem_toArray, List.getElem_cons_zero, List.getElem_cons_succ]
      go_wp2_with fail
      exact hQQ.out _ _ ⟨l0, l1, l2, l3, true, l5, l6, l7, l8, l9, l10, _, _, _, _, _, _, _, _, _, _, _, rfl, rfl, H0, H1, H2, Lib.hid (fun _ => rfl), Lib.hid (fun _ => rfl), H5, H6, H7, H8, H9, H10, HS⟩
    · have haf := haf _ rfl; have q4 : l4 = true := haf ⟨4, Go.Ground.data⟩ (by simp) rfl
      clear haf; have hu : l5 = false := hu
      have e4 := (H4.out q4)
      subst e4; clear H4; have hc : x.cell? ⟨Y, 0, none⟩ = some (.string sb.cls) := (HY0.out.below HS.out.below HY0.out.lt).cell 0
      refine wpOp_of_list_any rfl fun QQ hQ => ?_
      have hQQ := Lib.hid hQ; clear hQ; simp only [List.getElem_toArray, List.getElem_cons_zero, List.getElem_cons_succ]
      go_wp2_with fail
      exact hQQ.out _ _ ⟨l0, l1, l2, l3, l4, true, l6, l7, l8, l9, l10, _, _, _, _, _, _, _, _, _, _, _, rfl, rfl, H0, H1, H2, H3, Lib.hid (fun _ => rfl), Lib.hid (fun _ => rfl), H6, H7, H8, H9, H10, HS⟩
    · have haf := haf _ rfl; have q2 : l2 = true := haf ⟨2, Go.Ground.data⟩ (by simp) rfl
      have q5 : l5 = true := haf ⟨5, Go.Ground.data⟩ (by simp) rfl
      clear haf; have hu : l6 = false := hu
      have e2 := (H2.out q2)
      subst e2; clear H2; have e5 := (H5.out q5)
      subst e5; clear H5; refine wpOp_of_list_any rfl fun QQ hQ => ?_
      have hQQ := Lib.hid hQ; clear hQ; simp only [List.getElem_toArray, List.getElem_cons_zero, List.getElem_cons_succ]
      go_wp2_with fail
      refine (HC1.out x).mono ?_
      rintro e x1 ⟨rfl, hx⟩; rw [hx]
      clear hx x1; go_wp2_with fail
      exact hQQ.out _ _ ⟨l0, l1, l2, l3, l4, l5, true, l7, l8, l9, l10, _, _, _, _, _, _, _, _, _, _, _, rfl, rfl, H0, H1, Lib.hid (fun _ => rfl), H3, H4, Lib.hid (fun _ => rfl), Lib.hid (fun _ => rfl), H7, H8, H9, H10, HS⟩
    · have haf := haf _ rfl; clear haf
      have hu : l7 = false := hu
      refine wpOp_of_list_any rfl fun QQ hQ => ?_
      have hQQ := Lib.hid hQ; clear hQ; simp only [List.getElem_toArray, List.getElem_cons_zero, List.getElem_cons_succ]
      go_wp2_with fail
      exact hQQ.out _ _ ⟨l0, l1, l2, l3, l4, l5, l6, true, l8, l9, l10, _, _, _, _, _, _, _, _, _, _, _, rfl, rfl, H0, H1, H2, H3, H4, H5, H6, Lib.hid (fun _ => rfl), H8, H9, H10, HS⟩
    · have haf := haf _ rfl; have q7 : l7 = true := haf ⟨7, Go.Ground.data⟩ (by simp) rfl
      clear haf; have hu : l8 = false := hu
      have e7 := (H7.out q7)
      subst e7; clear H7; have hc : x.cell? ⟨X, 6, none⟩ = some (.int .i64 la) := (HX0.out.below HS.out.below HX0.out.lt).cell 6
      refine wpOp_of_list_any rfl fun QQ hQ => ?_
      have hQQ := Lib.hid hQ; clear hQ; simp only [List.getElem_toArray, List.getElem_cons_zero, List.getElem_cons_succ]
      go_wp2_with fail
      exact hQQ.out _ _ ⟨l0, l1, l2, l3, l4, l5, l6, l7, true, l9, l10, _, _, _, _, _, _, _, _, _, _, _, rfl, rfl, H0, H1, H2, H3, H4, H5, H6, Lib.hid (fun _ => rfl), Lib.hid (fun _ => rfl), H9, H10, HS⟩
    · have haf := haf _ rfl; clear haf
      have hu : l9 = false := hu
      refine wpOp_of_list_any rfl fun QQ hQ => ?_
      have hQQ := Lib.hid hQ; clear hQ; simp only [List.getElem_toArray, List.getElem_cons_zero, List.getElem_cons_succ]
      go_wp2_with fail
      exact hQQ.out _ _ ⟨l0, l1, l2, l3, l4, l5, l6, l7, l8, true, l10, _, _, _, _, _, _, _, _, _, _, _, rfl, rfl, H0, H1, H2, H3, H4, H5, H6, H7, H8, Lib.hid (fun _ => rfl), H10, HS⟩
    · have haf := haf _ rfl; have q9 : l9 = true := haf ⟨9, Go.Ground.data⟩ (by simp) rfl
      clear haf; have hu : l10 = false := hu
      have e9 := (H9.out q9)
      subst e9; clear H9; have hc : x.cell? ⟨Y, 6, none⟩ = some (.int .i64 lb) := (HY0.out.below HS.out.below HY0.out.lt).cell 6
      refine wpOp_of_list_any rfl fun QQ hQ => ?_
      have hQQ := Lib.hid hQ; clear hQ; simp only [List.getElem_toArray, List.getElem_cons_zero, List.getElem_cons_succ]
      go_wp2_with fail
      exact hQQ.out _ _ ⟨l0, l1, l2, l3, l4, l5, l6, l7, l8, l9, true, _, _, _, _, _, _, _, _, _, _, _, rfl, rfl, H0, H1, H2, H3, H4, H5, H6, H7, H8, Lib.hid (fun _ => rfl), Lib.hid (fun _ => rfl), HS⟩
  · intro listed a x hj hall; obtain ⟨l0, hj⟩ := hj
    obtain ⟨l1, hj⟩ := hj; obtain ⟨l2, hj⟩ := hj; obtain ⟨l3, hj⟩ := hj; obtain ⟨l4, hj⟩ := hj; obtain ⟨l5, hj⟩ := hj; obtain ⟨l6, hj⟩ := hj; obtain ⟨l7, hj⟩ := hj; obtain ⟨l8, hj⟩ := hj; obtain ⟨l9, hj⟩ := hj; obtain ⟨l10, hj⟩ := hj; obtain ⟨t5, hj⟩ := hj; obtain ⟨t6, hj⟩ := hj; obtain ⟨t7, hj⟩ := hj; obtain ⟨t8, hj⟩ := hj; obtain ⟨t9, hj⟩ := hj; obtain ⟨t10, hj⟩ := hj; obtain ⟨t11, hj⟩ := hj; obtain ⟨t12, hj⟩ := hj; obtain ⟨t13, hj⟩ := hj; obtain ⟨t14, hj⟩ := hj; obtain ⟨t15, hj⟩ := hj; obtain ⟨hl_, hj⟩ := hj; obtain ⟨ha_, hj⟩ := hj; obtain ⟨H0, hj⟩ := hj; obtain ⟨H1, hj⟩ := hj; obtain ⟨H2, hj⟩ := hj; obtain ⟨H3, hj⟩ := hj; obtain ⟨H4, hj⟩ := hj; obtain ⟨H5, hj⟩ := hj; obtain ⟨H6, hj⟩ := hj; obtain ⟨H7, hj⟩ := hj; obtain ⟨H8, hj⟩ := hj; obtain ⟨H9, hj⟩ := hj; obtain ⟨H10, hj⟩ := hj; have HS := hj; clear hj; subst hl_; subst ha_; have q8 : l8 = true := hall 8 (by omega)
    have q10 : l10 = true := hall 10 (by omega)
    have q6 : l6 = true := hall 6 (by omega)
    clear hall; have e8 := (H8.out q8)
    subst e8; have e10 := (H10.out q10)
    subst e10; have e6 := (H6.out q6)
    subst e6; refine tail_any (fun a x => ∃ (t4 t5 t6 t7 t8 t9 t10 t11 t12 t13 t14 t15 t16 t17 t18 : Value), a = ⟨(.agg #[.string sa.cls, .int .i64 sa.tim.weeks, .int .i64 sa.tim.day, .int .i64 sa.tim.start, .int .i64 sa.tim.len, .string sa.room, .int .i64 la] :: .agg #[.string sb.cls, .int .i64 sb.tim.weeks, .int .i64 sb.tim.day, .int .i64 sb.tim.start, .int .i64 sb.tim.len, .string sb.room, .int .i64 lb] :: .pointer (some ⟨X, 0, none⟩) :: .pointer (some ⟨Y, 0, none⟩) :: t4 :: t5 :: t6 :: t7 :: t8 :: t9 :: t10 :: t11 :: t12 :: t13 :: t14 :: t15 :: t16 :: t17 :: t18 :: []).toArray, []⟩ ∧ t4 = .int .i64 ff ∧ Below w.heap.size w x) ?_ fun QQ hQ => ?_
    · intro a x hpost; obtain ⟨t4, hpost⟩ := hpost
      obtain ⟨t5, hpost⟩ := hpost; obtain ⟨t6, hpost⟩ := hpost; obtain ⟨t7, hpost⟩ := hpost; obtain ⟨t8, hpost⟩ := hpost; obtain ⟨t9, hpost⟩ := hpost; obtain ⟨t10, hpost⟩ := hpost; obtain ⟨t11, hpost⟩ := hpost; obtain ⟨t12, hpost⟩ := hpost; obtain ⟨t13, hpost⟩ := hpost; obtain ⟨t14, hpost⟩ := hpost; obtain ⟨t15, hpost⟩ := hpost; obtain ⟨t16, hpost⟩ := hpost; obtain ⟨t17, hpost⟩ := hpost; obtain ⟨t18, hpost⟩ := hpost; obtain ⟨ha_, hpost⟩ := hpost; subst ha_; obtain ⟨rfl, hb⟩ := hpost; have HB := Lib.hid hb; clear hb; go_wp2_with fail
      go_ret; exact ⟨rfl, HB.out⟩
    have hQQ := Lib.hid hQ; clear hQ; simp only [List.drop_succ_cons, List.drop_zero]
    go_wp2_with fail
    refine (HC2.out x).mono ?_
    rintro e x1 ⟨rfl, hx⟩; rw [hx]
    clear hx x1; go_wp2_with fail
    refine (HC3.out x.heap.size _ (Blk.new x _ _)).mono ?_
    rintro e x1 ⟨rfl, hx⟩; rw [hx]
    clear hx x1; go_wp2_with fail
    exact hQQ.out _ _ ⟨_, _, _, _, _, _, _, _, _, _, _, _, _, _, _, rfl, rfl, (HL0.out.trans (HS.out.below.mono HL0.out.size)).trans ((below_box x _).mono (Nat.le_trans HL0.out.size HS.out.below.size))⟩
set_option maxHeartbeats 4000000 in
set_option maxRecDepth 100000 in
theorem weeks335 (s : Int) (w : World) (hs : Tt.weeksB s 20 = true) : Calls Tryz.prog 217 #[.int .i64 s] w fun e w' => ∃ v, e = .returned v ∧ RowI w.heap.size w' v (wksL s 20) ∧ Below w.heap.size w w' := by
  obtain ⟨i0, hi, hz0, hz1, hz2⟩ := info_parts infoInt
  obtain ⟨hx0, hx1⟩ := Tt.weeks_bd hs
  have HC := Lib.hid (weeks213 s 20 w)
  rw [hs] at HC
  have HBN := Lib.hid (fun k : Int => bit_is s k (by omega) (by omega))
  clear hs; go_enter Tryz.func217, Tryz.ntmps217
  go_wp2_with fail
  refine HC.out.mono ?_
  clear HC; rintro e w1 ⟨rfl, hx⟩; rw [hx]
  clear hx w1; go_wp2_with fail
  go_loopw [3, 4] (fun rv iv wr => ∃ k : Nat, k ≤ 20 ∧ iv = .int .i64 ((k : Int) + 1) ∧ Hid (RowI w.heap.size wr rv (wksL s k)) ∧ Hid (Below w.heap.size w wr)) (fun _ iv _ => 30 - (intOf iv).toNat)
  case atStart => exact ⟨0, by omega, rfl, Lib.hid (RowI.nil _ _), Lib.hid (Below.refl _ _)⟩
  case round =>
    obtain ⟨k, hk, rfl, HR, HB⟩ := hrel; by_cases hlt : k < 20
    rotate_left
    · obtain rfl : k = 20 := by omega
      go_wp2_with fail
      go_ret; exact ⟨_, rfl, HR.out, HB.out⟩
    have hki : (k : Int) + 1 ≤ 20 := by omega
    have hk0 : (0 : Int) ≤ (k : Int) := by omega
    have hk20 : (k : Int) < 20 := by omega
    have hxn : ¬ s < 0 := by omega
    have hbn := HBN.out (k : Int)
    rw [show ((k : Int)).toNat = k from Int.toNat_natCast k] at hbn
    obtain ⟨b, hb⟩ : ∃ b, b = Tt.bit s (k : Int) := ⟨_, rfl⟩
    rw [← hb] at hbn
    have HBT := Lib.hid hb; clear hb; cases b
    · have hbn : (bits .and .i64 (s / 2 ^ k) 1 == 1) = false := hbn
      have HK := Lib.hid (show wksL s (k + 1) = wksL s k from by rw [wksL, if_neg (by rw [← HBT.out]; decide), List.append_nil])
      go_wp2_with fail
      go_roundw
      case rel => exact ⟨k + 1, by omega, by go_num, Lib.hid (by rw [HK.out]; exact HR.out), HB⟩
      case measure => simp [intOf]; omega
    · have hbn : (bits .and .i64 (s / 2 ^ k) 1 == 1) = true := hbn
      have HK := Lib.hid (show wksL s (k + 1) = wksL s k ++ [(k : Int) + 1] from by rw [wksL, if_pos HBT.out.symm])
      have hll := wksL_len s k; have hws := HB.out.size; obtain ⟨pr, cr, hv⟩ := RowI.slice HR.out
      subst hv; go_wp2_with (at_builtin; refine wpList_append_own_at _ rfl (.tmp 19) (.tmp 21) 22 rfl w.heap.size 3 i0 (.int .i64 0) 1 8 Tryz.underlying22 hi hz0 hz1 hz2 rfl (by decide) _ _ _ rfl (World.ownsRow.alloc HR.out _) ⟨wr.heap.size, 0, none⟩ 1 1 [.int .i64 ((k : Int) + 1)] rfl rfl (cell_one _ _ _) (by intro u hu; simp at hu; subst hu; rfl) (by unfold maxLen; omega) (by omega) (by simp; omega) ?_)
      intro v' x8 hown8 hgrow _ hat; have HB8 := Lib.hid (below_grownBy (HB.out.trans ((below_box wr _).mono HB.out.size)) (World.ownsRow.alloc HR.out _) (Nat.le_refl _) (by simp; omega) hgrow)
      have HR8 := Lib.hid (show RowI w.heap.size x8 v' (wksL s (k + 1)) from by rw [HK.out]; exact RowI.snoc hown8)
      clear hgrow hown8 hat; go_wp2_with fail
      go_roundw
      case rel => exact ⟨k + 1, by omega, by go_num, HR8, HB8⟩
      case measure => simp [intOf]; omega
set_option maxHeartbeats 4000000 in
set_option maxRecDepth 100000 in
theorem low292 (s : Ses) (w : World) (hs : Tt.weeksB s.tim.weeks 20 = true) : Calls Tryz.prog 155 #[.int .i64 s.tim.weeks] w fun e w' => e = .returned (.int .i64 (lowW s)) ∧ Below w.heap.size w w' := by
  have HC := Lib.hid (weeks335 s.tim.weeks w hs)
  obtain ⟨r, hr⟩ := wksL_first hs
  rw [hr] at HC
  have e : ((Tt.lowB s.tim.weeks 20 0 : Nat) + 1 : Int) = lowW s := rfl
  rw [e] at HC
  obtain ⟨m, hm⟩ : ∃ m, m = lowW s := ⟨_, rfl⟩
  rw [← hm] at HC ⊢
  clear hs hr e hm; go_enter Tryz.func155, Tryz.ntmps155
  go_wp2_with fail
  refine HC.out.mono ?_
  clear HC; rintro e w1 ⟨v, rfl, hv, hb⟩; have HB := Lib.hid hb; clear hb; obtain ⟨ao, c, hvs, hi⟩ := hv.ints
  subst hvs; obtain ⟨b, o, ha, hlt, hc⟩ := hi.form (by simp)
  subst ha; have c0 := hc 0 m rfl; clear hc hi hv; simp only [List.length_cons]
  have hr0 : (0 : Int) < (r.length : Int) + 1 := by omega
  rw [Nat.add_zero] at c0
  go_wp2_with fail
  go_ret; exact ⟨rfl, HB.out⟩
set_option maxHeartbeats 4000000 in
set_option maxRecDepth 100000 in
theorem before226 (sa sb : Ses) (w : World) (ha : Tt.weeksB sa.tim.weeks 20 = true) (hb : Tt.weeksB sb.tim.weeks 20 = true) : Calls Tryz.prog 91 #[sesVal sa, sesVal sb] w fun e w' => e = .returned (.bool (befB sa sb)) ∧ Below w.heap.size w w' := by
  obtain ⟨X, hX⟩ : ∃ x, x = w.heap.size := ⟨_, rfl⟩
  obtain ⟨Y, hY⟩ : ∃ x, x = w.heap.size + 1 := ⟨_, rfl⟩
  obtain ⟨w0, hw0⟩ : ∃ x, x = (w.alloc (.cells #[.string sa.cls, .int .i64 sa.tim.weeks, .int .i64 sa.tim.day, .int .i64 sa.tim.start, .int .i64 sa.tim.len, .string sa.room] 110)).alloc (.cells #[.string sb.cls, .int .i64 sb.tim.weeks, .int .i64 sb.tim.day, .int .i64 sb.tim.start, .int .i64 sb.tim.len, .string sb.room] 110) := ⟨_, rfl⟩
  have HX0 := Lib.hid (show Blk X #[.string sa.cls, .int .i64 sa.tim.weeks, .int .i64 sa.tim.day, .int .i64 sa.tim.start, .int .i64 sa.tim.len, .string sa.room] 110 w0 from by rw [hw0, hX]; exact (Blk.new w _ _).alloc _)
  have HY0 := Lib.hid (show Blk Y #[.string sb.cls, .int .i64 sb.tim.weeks, .int .i64 sb.tim.day, .int .i64 sb.tim.start, .int .i64 sb.tim.len, .string sb.room] 110 w0 from by rw [hw0, hY]; exact Blk.new' _ _ _ (by simp))
  have HL0 := Lib.hid (show Below w.heap.size w w0 from by rw [hw0]; exact (below_box w _).trans ((below_box _ _).mono (by simp)))
  unfold sesVal sesCells
  have HLA := Lib.hid (fun W => low292 sa W ha)
  have HLB := Lib.hid (fun W => low292 sb W hb)
  clear ha hb; obtain ⟨la, hla⟩ : ∃ m, m = lowW sa := ⟨_, rfl⟩
  obtain ⟨lb, hlb⟩ : ∃ m, m = lowW sb := ⟨_, rfl⟩
  have HR := Lib.hid (show befB sa sb = (Op.bytesLess sa.cls.toList sb.cls.toList || (decide (sa.cls = sb.cls) && decide (la < lb))) from by rw [hla, hlb]; rfl)
  rw [← hla] at HLA
  rw [← hlb] at HLB
  clear hla hlb; obtain ⟨xx, hxx⟩ : ∃ x, Op.bytesLess sa.cls.toList sb.cls.toList = x := ⟨_, rfl⟩
  rw [hxx, ← dec_bytes] at HR
  obtain ⟨yy, hyy⟩ : ∃ y, (sa.cls.toList == sb.cls.toList) = y := ⟨_, rfl⟩
  rw [hyy] at HR
  have x0 : w0.cell? ⟨X, 0, none⟩ = some (.string sa.cls) := HX0.out.cell 0
  have x1 : w0.cell? ⟨X, 1, none⟩ = some (.int .i64 sa.tim.weeks) := HX0.out.cell 1
  have y0 : w0.cell? ⟨Y, 0, none⟩ = some (.string sb.cls) := HY0.out.cell 0
  have y1 : w0.cell? ⟨Y, 1, none⟩ = some (.int .i64 sb.tim.weeks) := HY0.out.cell 1
  go_enter Tryz.func91, Tryz.ntmps91
  go_upto_region 1 with (fail)
  rw [← hw0, ← hY, ← hX]; clear hw0 hX hY; cases xx
  · cases yy
    · go_quiet (fail)
      go_wp2_with fail
      go_ret; exact ⟨by rw [HR.out]; rfl, HL0.out.trans (by obtain ⟨w2, h1, h2, -⟩ := redrew w0 nq; rw [← h1]; exact (h2 _).mono HL0.out.size)⟩
    · have HKP : Hid (∀ W : World, Below w0.heap.size w0 W → W.cell? ⟨X, 0, none⟩ = some (.string sa.cls) ∧ W.cell? ⟨X, 1, none⟩ = some (.int .i64 sa.tim.weeks) ∧ W.cell? ⟨Y, 0, none⟩ = some (.string sb.cls) ∧ W.cell? ⟨Y, 1, none⟩ = some (.int .i64 sb.tim.weeks)) := Lib.hid fun W hW => ⟨(HX0.out.below hW HX0.out.lt).cell 0, (HX0.out.below hW HX0.out.lt).cell 1, (HY0.out.below hW HY0.out.lt).cell 0, (HY0.out.below hW HY0.out.lt).cell 1⟩
      go_region_held3 (fun W' => W'.cell? ⟨X, 0, none⟩ = some (.string sa.cls) ∧ W'.cell? ⟨X, 1, none⟩ = some (.int .i64 sa.tim.weeks) ∧ W'.cell? ⟨Y, 0, none⟩ = some (.string sb.cls) ∧ W'.cell? ⟨Y, 1, none⟩ = some (.int .i64 sb.tim.weeks)) (first | exact HKP.out _ (Below.refl _ _) | exact HKP.out _ (below_drw (Below.refl _ _)) | exact HKP.out _ ((below_drw (Below.refl _ _)).trans h5) | exact HKP.out _ (((below_drw (Below.refl _ _)).trans h5).trans (h6.mono (((below_drw (Below.refl _ w0)).trans h5).size)))) (first | (go_at_call 155; refine (HLA.out w0.drew).mono ?_; rintro e w5 ⟨rfl, h5⟩) | (go_at_call 155; refine (HLB.out _).mono ?_; rintro e w6 ⟨rfl, h6⟩))
      have H5 := Lib.hid ((below_drw (Below.refl _ w0)).trans h5)
      have HL6 := Lib.hid (HL0.out.trans ((H5.out.trans (h6.mono H5.out.size)).mono HL0.out.size))
      clear h5 h6; go_wp2_with fail
      go_ret; exact ⟨by rw [HR.out]; rfl, HL6.out⟩
  · go_quiet (fail)
    go_wp2_with fail
    go_ret; exact ⟨by rw [HR.out]; rfl, HL0.out.trans (by obtain ⟨w2, h1, h2, -⟩ := redrew w0 nq; rw [← h1]; exact (h2 _).mono HL0.out.size)⟩
end Go.Proofs.YtcomifbfldoeiaaGreatDoor
