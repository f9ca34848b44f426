/- The reference's Lines: the lines of a feed. -/
import Derived.Test.YtageielcdebjlaaGreatDoorPk27
import Derived.Test.YtageielcdebjlaaGreatDoorPk33
import Derived.Test.YtageielcdebjlaaGreatDoorPk25
namespace Go.Proofs.YtageielcdebjlaaGreatDoor
open Go.RowKit

def Keep0 (w w' : World) : Prop := ∀ g cs ty, ty ≠ 9 → Blk g cs ty w → Blk g cs ty w'
theorem app_keep {w W W' : World} {lo n : Nat} {v : Value} {ys : List Value} {o : Obj} (ho : W.ownsRow lo 9 1 v n ys) (hlo : w.heap.size ≤ lo) (hB : Below w.heap.size w W) (hg : (W.alloc o).grownBy W' v.ownBlock) : Below w.heap.size w W' ∧ Keep0 W W' := by
  have hs := hB.size; refine ⟨hB.trans (((Below.refl _ W).alloc hs _).grown hg (by simp; omega) (fun k hk => by have := (ho.lt k hk).1; omega)), fun g cs ty ht h => (h.alloc _).grown (ho.alloc _) hg ht⟩
theorem grown_keep {w W W' : World} {lo n : Nat} {v : Value} {ys : List Value} (ho : W.ownsRow lo 9 1 v n ys) (hlo : w.heap.size ≤ lo) (hB : Below w.heap.size w W) (hg : W.grownBy W' v.ownBlock) : Below w.heap.size w W' ∧ Keep0 W W' := by
  have hs := hB.size; refine ⟨hB.trans ((Below.refl _ W).grown hg (by omega) (fun k hk => by have := (ho.lt k hk).1; omega)), fun g cs ty ht h => h.grown ho hg ht⟩
theorem own_five {W : World} {lo : Nat} (h : lo ≤ W.heap.size) (a b c d e : ByteArray) : (W.alloc (.cells #[.string a, .string b, .string c, .string d, .string e] 9)).ownsRow lo 9 1 (.slice (some ⟨W.heap.size, 0, none⟩) 5 5) ([a, b, c, d, e] : List ByteArray).length (([a, b, c, d, e] : List ByteArray).map Value.string) :=
  ⟨rfl, .inr ⟨W.heap.size, 5, #[.string a, .string b, .string c, .string d, .string e], rfl, h, heap_alloc_new W _, Nat.le_refl _, by decide, rfl, rfl⟩⟩

set_option maxRecDepth 100000 in
set_option maxHeartbeats 16000000 in
theorem lines52 (n : ByteArray) (v : Int) (af : Option Addr) (cf : Nat) (es : List Ev) (z : ByteArray) (BB : Nat) (w : World) (hBB : BB ≤ w.heap.size) (hE : Evs BB w af es) (hv : feedV n v es = 0) (hz : Tt.code z.data.toList = true) :
    Calls Tryz.prog 52 #[.agg #[.string n, .int .i64 v, .slice af es.length cf], .string z] w fun e w' => ∃ u, e = .returned u ∧ w'.ownsRow w.heap.size 9 1 u (feedL n.data.toList v es z.data.toList).length (((feedL n.data.toList v es z.data.toList).map str).map Value.string) ∧ Below w.heap.size w w' := by
  obtain ⟨i1, hj, hy0, hy2, hy3⟩ := info_parts infoString
  obtain ⟨v0, v1, hlen, hev⟩ := feedV_ok hv
  have hzs := code_size hz; have hns : n.size ≤ 16 := by
    unfold feedV at hv
    split at hv
    · cases hv
    · rename_i hc
      exact code_size (by simpa using hc)
  have HEV := Lib.hid (evsV_each v es none hev)
  have HE := Lib.hid hE; obtain ⟨W0, hW0⟩ : ∃ W0, W0 = w.alloc (.cells #[.string n, .int .i64 v, .slice af es.length cf] 26) := ⟨_, rfl⟩
  have HF0 := Lib.hid (show Blk w.heap.size #[.string n, .int .i64 v, .slice af es.length cf] 26 W0 from by rw [hW0]; exact Blk.new w _ 26)
  have HB0 := Lib.hid (show Below w.heap.size w W0 from by rw [hW0]; exact below_box w _)
  have hlo0 : w.heap.size + 1 ≤ W0.heap.size := by rw [hW0]; simp
  obtain ⟨m, hmm⟩ : ∃ m, m = es.length := ⟨_, rfl⟩
  have HM := Lib.hid hmm; obtain ⟨F, hF⟩ : ∃ F, F = w.heap.size := ⟨_, rfl⟩
  have hFle : w.heap.size ≤ F := by omega
  rw [← hF] at HF0
  rw [← hmm] at hW0 HF0 hlen ⊢
  obtain ⟨D5, hD5⟩ : ∃ D5, D5 = (⟨(Tt.decim v.toNat 1 []).toArray⟩ : ByteArray) := ⟨_, rfl⟩
  have HD5 := Lib.hid hD5.symm
  have HD5L := Lib.hid (show D5.data.toList = Lib.decDigits v.toNat from by rw [hD5]; exact Tt.decim_1 _)
  have zD5 : D5.size ≤ 5 := by rw [Lib.size_eq, HD5L.out]; exact Tt.dec_len 4 _ (by omega)
  clear hE hev hv hmm hD5; go_enter Tryz.func52, Tryz.ntmps52
  go_upto_region 1 with (fail)
  rw [← hW0, ← hF]; clear hW0 hF; refine wp_region_tail 7 (by kernel_rfl) (fun listed a x => ∃ (l0 l1 l2 l3 l4 l5 l6 : Bool) (t10 t11 t12 t13 t14 t15 t16 : Value), listed = #[l0, l1, l2, l3, l4, l5, l6, false, false] ∧ a = ⟨(.agg #[.string n, .int .i64 v, .slice af m cf] :: .string z :: .pointer (some ⟨F, 0, none⟩) :: undef :: .slice none 0 0 :: undef :: undef :: undef :: undef :: undef :: t10 :: t11 :: t12 :: t13 :: t14 :: t15 :: t16 :: undef :: undef :: undef :: undef :: undef :: undef :: undef :: undef :: undef :: undef :: undef :: undef :: undef :: undef :: undef :: undef :: undef :: undef :: undef :: undef :: undef :: undef :: undef :: undef :: undef :: undef :: undef :: undef :: undef :: undef :: undef :: undef :: undef :: undef :: undef :: undef :: undef :: undef :: undef :: undef :: undef :: undef :: undef :: undef :: undef :: undef :: undef :: undef :: undef :: undef :: undef :: undef :: undef :: undef :: undef :: undef :: undef :: undef :: undef :: undef :: undef :: undef :: undef :: undef :: undef :: undef :: undef :: undef :: undef :: undef :: undef :: undef :: undef :: undef :: undef :: undef :: undef :: undef :: undef :: undef :: undef :: undef :: undef :: undef :: undef :: undef :: undef :: undef :: undef :: undef :: undef :: undef :: undef :: undef :: undef :: undef :: undef :: undef :: undef :: undef :: undef :: undef :: undef :: undef :: undef :: undef :: undef :: undef :: undef :: undef :: undef :: undef :: undef :: []).toArray, []⟩ ∧ Hid (l0 = true → t10 = .pointer (some ⟨F, 0, none⟩)) ∧ Hid (l1 = true → t11 = .string n) ∧ Hid (l2 = true → t12 = .string (⟨#[78, 65, 77, 69, 58]⟩ ++ n)) ∧ Hid (l3 = true → t13 = .pointer (some ⟨F, 1, none⟩)) ∧ Hid (l4 = true → t14 = .int .i64 v) ∧ Hid (l5 = true → t15 = .string D5) ∧ Hid (l6 = true → t16 = .string (⟨#[82, 69, 86, 73, 83, 73, 79, 78, 58]⟩ ++ D5)) ∧ Hid (Made W0 x)) (by decide) (by kernel_rfl) (by kernel_rfl) ?_ ?_ ?_ ?_
  · exact ⟨false, false, false, false, false, false, false, _, _, _, _, _, _, _, rfl, rfl, Lib.hid (fun h => by cases h), Lib.hid (fun h => by cases h), Lib.hid (fun h => by cases h), Lib.hid (fun h => by cases h), Lib.hid (fun h => by cases h), Lib.hid (fun h => by cases h), Lib.hid (fun h => by cases h), Lib.hid (Made.start W0)⟩
  · intro listed a x hj; obtain ⟨l0, hj⟩ := hj
    obtain ⟨l1, hj⟩ := hj; obtain ⟨l2, hj⟩ := hj; obtain ⟨l3, hj⟩ := hj; obtain ⟨l4, hj⟩ := hj; obtain ⟨l5, hj⟩ := hj; obtain ⟨l6, hj⟩ := hj; obtain ⟨t10, hj⟩ := hj; obtain ⟨t11, hj⟩ := hj; obtain ⟨t12, hj⟩ := hj; obtain ⟨t13, hj⟩ := hj; obtain ⟨t14, hj⟩ := hj; obtain ⟨t15, hj⟩ := hj; obtain ⟨t16, hj⟩ := hj; obtain ⟨h1, -⟩ := hj; subst h1; exact ⟨rfl, fun k h1 h2 => by (have h2 : k < 9 := h2); rcases (show k = 7 ∨ k = 8 by omega) with rfl | rfl <;> rfl⟩
  · intro listed a x i hj hlt hu haf; obtain ⟨l0, hj⟩ := hj
    obtain ⟨l1, hj⟩ := hj; obtain ⟨l2, hj⟩ := hj; obtain ⟨l3, hj⟩ := hj; obtain ⟨l4, hj⟩ := hj; obtain ⟨l5, hj⟩ := hj; obtain ⟨l6, hj⟩ := hj; obtain ⟨t10, hj⟩ := hj; obtain ⟨t11, hj⟩ := hj; obtain ⟨t12, hj⟩ := hj; obtain ⟨t13, hj⟩ := hj; obtain ⟨t14, hj⟩ := hj; obtain ⟨t15, hj⟩ := hj; obtain ⟨t16, hj⟩ := hj; obtain ⟨hl_, hj⟩ := hj; obtain ⟨ha_, hj⟩ := hj; obtain ⟨H0, hj⟩ := hj; obtain ⟨H1, hj⟩ := hj; obtain ⟨H2, hj⟩ := hj; obtain ⟨H3, hj⟩ := hj; obtain ⟨H4, hj⟩ := hj; obtain ⟨H5, hj⟩ := hj; obtain ⟨H6, hj⟩ := hj; have HS := hj; clear hj; subst hl_; subst ha_; rcases (show ∀ i : Nat, i < 7 → (i = 0 ∨ i = 1 ∨ i = 2 ∨ i = 3 ∨ i = 4 ∨ i = 5 ∨ i = 6) by decide) i hlt with rfl | rfl | rfl | rfl | rfl | rfl | rfl
    · have haf := haf _ rfl; clear haf
      have hu : l0 = false := hu
      refine wpOp_of_list_any rfl fun QQ hQ => ?_
      have hQQ := Lib.hid hQ; clear hQ; simp only [List.getElem_toArray, List.getElem_cons_zero]
      go_wp2_with fail
      exact hQQ.out _ _ ⟨true, l1, l2, l3, l4, l5, l6, _, _, _, _, _, _, _, rfl, rfl, Lib.hid (fun _ => rfl), H1, H2, H3, H4, H5, H6, HS⟩
    · have haf := haf _ rfl; have q0 : l0 = true := haf ⟨0, Go.Ground.data⟩ (by simp) rfl
      clear haf; have hu : l1 = false := hu
      have e0 := (H0.out q0)
      subst e0; clear H0; have hc : x.cell? ⟨F, 0, none⟩ = some (.string n) := (HS.out.blk HF0.out).cell 0
      refine wpOp_of_list_any rfl fun QQ hQ => ?_
      have hQQ := Lib.hid hQ; clear hQ; simp only [List.getElem_toArray, List.getElem_cons_zero, List.getElem_cons_succ]
      go_wp2_with fail
      exact hQQ.out _ _ ⟨l0, true, l2, l3, l4, l5, l6, _, _, _, _, _, _, _, rfl, rfl, Lib.hid (fun _ => rfl), Lib.hid (fun _ => rfl), H2, H3, H4, H5, H6, HS⟩
    · have haf := haf _ rfl; have q1 : l1 = true := haf ⟨1, Go.Ground.data⟩ (by simp) rfl
      clear haf; have hu : l2 = false := hu
      have e1 := (H1.out q1)
      subst e1; clear H1; refine wpOp_of_list_any rfl fun QQ hQ => ?_
      have hQQ := Lib.hid hQ; clear hQ; simp only [List.getElem_toArray, List.getElem_cons_zero, List.getElem_cons_succ]
      go_wp2_with fail
      exact hQQ.out _ _ ⟨l0, l1, true, l3, l4, l5, l6, _, _, _, _, _, _, _, rfl, rfl, H0, Lib.hid (fun _ => rfl), Lib.hid (fun _ => rfl), H3, H4, H5, H6, HS⟩
    · have haf := haf _ rfl; clear haf
      have hu : l3 = false := hu
      refine wpOp_of_list_any rfl fun QQ hQ => ?_
      have hQQ := Lib.hid hQ; clear hQ; simp only [List.getElem_toArray, List.getElem_cons_zero, List.getElem_cons_succ]
      go_wp2_with fail
      exact hQQ.out _ _ ⟨l0, l1, l2, true, l4, l5, l6, _, _, _, _, _, _, _, rfl, rfl, H0, H1, H2, Lib.hid (fun _ => rfl), H4, H5, H6, HS⟩
    · have haf := haf _ rfl; have q3 : l3 = true := haf ⟨3, Go.Ground.data⟩ (by simp) rfl
      clear haf; have hu : l4 = false := hu
      have e3 := (H3.out q3)
      subst e3; clear H3; have hc : x.cell? ⟨F, 1, none⟩ = some (.int .i64 v) := (HS.out.blk HF0.out).cell 1
      refine wpOp_of_list_any rfl fun QQ hQ => ?_
      have hQQ := Lib.hid hQ; clear hQ; simp only [List.getElem_toArray, List.getElem_cons_zero, List.getElem_cons_succ]
      go_wp2_with fail
      exact hQQ.out _ _ ⟨l0, l1, l2, l3, true, l5, l6, _, _, _, _, _, _, _, rfl, rfl, H0, H1, H2, Lib.hid (fun _ => rfl), Lib.hid (fun _ => rfl), H5, H6, HS⟩
    · have haf := haf _ rfl; have q4 : l4 = true := haf ⟨4, Go.Ground.data⟩ (by simp) rfl
      clear haf; have hu : l5 = false := hu
      have e4 := (H4.out q4)
      subst e4; clear H4; refine wpOp_of_list_any rfl fun QQ hQ => ?_
      have hQQ := Lib.hid hQ; clear hQ; simp only [List.getElem_toArray, List.getElem_cons_zero, List.getElem_cons_succ]
      go_wp2_with fail
      refine (decimal110 v 1 x (by omega) (by omega) (by omega) (by omega)).mono ?_
      rintro y x1 ⟨rfl, hb1⟩; rw [show (1 : Int).toNat = 1 from rfl, HD5.out]
      have hk := Kept.made (B := W0.heap.size) hb1
      have HS1 := Lib.hid (HS.out.then hb1)
      clear hb1; go_wp2_with fail
      exact hQQ.out _ _ ⟨l0, l1, l2, l3, l4, true, l6, _, _, _, _, _, _, _, rfl, rfl, H0, H1, H2, H3, Lib.hid (fun _ => rfl), Lib.hid (fun _ => rfl), H6, HS1⟩
    · have haf := haf _ rfl; have q5 : l5 = true := haf ⟨5, Go.Ground.data⟩ (by simp) rfl
      clear haf; have hu : l6 = false := hu
      have e5 := (H5.out q5)
      subst e5; clear H5; refine wpOp_of_list_any rfl fun QQ hQ => ?_
      have hQQ := Lib.hid hQ; clear hQ; simp only [List.getElem_toArray, List.getElem_cons_zero, List.getElem_cons_succ]
      go_wp2_with fail
      exact hQQ.out _ _ ⟨l0, l1, l2, l3, l4, l5, true, _, _, _, _, _, _, _, rfl, rfl, H0, H1, H2, H3, H4, Lib.hid (fun _ => rfl), Lib.hid (fun _ => rfl), HS⟩
  · intro listed a x hj hall; obtain ⟨l0, hj⟩ := hj
    obtain ⟨l1, hj⟩ := hj; obtain ⟨l2, hj⟩ := hj; obtain ⟨l3, hj⟩ := hj; obtain ⟨l4, hj⟩ := hj; obtain ⟨l5, hj⟩ := hj; obtain ⟨l6, hj⟩ := hj; obtain ⟨t10, hj⟩ := hj; obtain ⟨t11, hj⟩ := hj; obtain ⟨t12, hj⟩ := hj; obtain ⟨t13, hj⟩ := hj; obtain ⟨t14, hj⟩ := hj; obtain ⟨t15, hj⟩ := hj; obtain ⟨t16, hj⟩ := hj; obtain ⟨hl_, hj⟩ := hj; obtain ⟨ha_, hj⟩ := hj; obtain ⟨H0, hj⟩ := hj; obtain ⟨H1, hj⟩ := hj; obtain ⟨H2, hj⟩ := hj; obtain ⟨H3, hj⟩ := hj; obtain ⟨H4, hj⟩ := hj; obtain ⟨H5, hj⟩ := hj; obtain ⟨H6, hj⟩ := hj; have HS := hj; clear hj; subst hl_; subst ha_; have q2 : l2 = true := hall 2 (by omega)
    have q6 : l6 = true := hall 6 (by omega)
    clear hall; have e2 := (H2.out q2)
    subst e2; have e6 := (H6.out q6)
    subst e6; refine tail_any (fun a x => ∃ (t5 t10 t11 t12 t13 t14 t15 t16 t17 : Value), a = ⟨(.agg #[.string n, .int .i64 v, .slice af m cf] :: .string z :: .pointer (some ⟨F, 0, none⟩) :: undef :: .slice none 0 0 :: t5 :: undef :: undef :: undef :: undef :: t10 :: t11 :: t12 :: t13 :: t14 :: t15 :: t16 :: t17 :: undef :: undef :: undef :: undef :: undef :: undef :: undef :: undef :: undef :: undef :: undef :: undef :: undef :: undef :: undef :: undef :: undef :: undef :: undef :: undef :: undef :: undef :: undef :: undef :: undef :: undef :: undef :: undef :: undef :: undef :: undef :: undef :: undef :: undef :: undef :: undef :: undef :: undef :: undef :: undef :: undef :: undef :: undef :: undef :: undef :: undef :: undef :: undef :: undef :: undef :: undef :: undef :: undef :: undef :: undef :: undef :: undef :: undef :: undef :: undef :: undef :: undef :: undef :: undef :: undef :: undef :: undef :: undef :: undef :: undef :: undef :: undef :: undef :: undef :: undef :: undef :: undef :: undef :: undef :: undef :: undef :: undef :: undef :: undef :: undef :: undef :: undef :: undef :: undef :: undef :: undef :: undef :: undef :: undef :: undef :: undef :: undef :: undef :: undef :: undef :: undef :: undef :: undef :: undef :: undef :: undef :: undef :: undef :: undef :: undef :: undef :: undef :: []).toArray, []⟩ ∧ x.ownsRow (w.heap.size + 1) 9 1 t5 ([⟨#[66, 69, 71, 73, 78, 58, 86, 67, 65, 76, 69, 78, 68, 65, 82]⟩, ⟨#[86, 69, 82, 83, 73, 79, 78, 58, 50, 46, 48]⟩, ⟨#[80, 82, 79, 68, 73, 68, 58, 45, 47, 47, 116, 105, 109, 101, 116, 97, 98, 108, 101, 47, 47, 69, 78]⟩, ⟨#[78, 65, 77, 69, 58]⟩ ++ n, ⟨#[82, 69, 86, 73, 83, 73, 79, 78, 58]⟩ ++ D5] : List ByteArray).length (([⟨#[66, 69, 71, 73, 78, 58, 86, 67, 65, 76, 69, 78, 68, 65, 82]⟩, ⟨#[86, 69, 82, 83, 73, 79, 78, 58, 50, 46, 48]⟩, ⟨#[80, 82, 79, 68, 73, 68, 58, 45, 47, 47, 116, 105, 109, 101, 116, 97, 98, 108, 101, 47, 47, 69, 78]⟩, ⟨#[78, 65, 77, 69, 58]⟩ ++ n, ⟨#[82, 69, 86, 73, 83, 73, 79, 78, 58]⟩ ++ D5] : List ByteArray).map Value.string) ∧ Below W0.heap.size W0 x) ?_ fun QQ hQ => ?_
    · intro a x hpost; obtain ⟨t5, hpost⟩ := hpost
      obtain ⟨t10, hpost⟩ := hpost; obtain ⟨t11, hpost⟩ := hpost; obtain ⟨t12, hpost⟩ := hpost; obtain ⟨t13, hpost⟩ := hpost; obtain ⟨t14, hpost⟩ := hpost; obtain ⟨t15, hpost⟩ := hpost; obtain ⟨t16, hpost⟩ := hpost; obtain ⟨t17, hpost⟩ := hpost; obtain ⟨ha_, hpost⟩ := hpost; subst ha_; obtain ⟨ho, hb⟩ := hpost; obtain ⟨y0, hy⟩ : ∃ y : List ByteArray, y = [⟨#[66, 69, 71, 73, 78, 58, 86, 67, 65, 76, 69, 78, 68, 65, 82]⟩, ⟨#[86, 69, 82, 83, 73, 79, 78, 58, 50, 46, 48]⟩, ⟨#[80, 82, 79, 68, 73, 68, 58, 45, 47, 47, 116, 105, 109, 101, 116, 97, 98, 108, 101, 47, 47, 69, 78]⟩, ⟨#[78, 65, 77, 69, 58]⟩ ++ n, ⟨#[82, 69, 86, 73, 83, 73, 79, 78, 58]⟩ ++ D5] := ⟨_, rfl⟩
      rw [← hy] at ho
      have HY0 := Lib.hid (show y0 = (headL n.data.toList v).map str from by rw [hy]; unfold headL; simp only [List.map_cons, List.map_nil]; rw [show (⟨#[78, 65, 77, 69, 58]⟩ ++ n : ByteArray) = str ([78, 65, 77, 69, 58] ++ n.data.toList) from mk_bytes (by rw [bs_app]), show (⟨#[82, 69, 86, 73, 83, 73, 79, 78, 58]⟩ ++ D5 : ByteArray) = str ([82, 69, 86, 73, 83, 73, 79, 78, 58] ++ Lib.decDigits v.toNat) from mk_bytes (by rw [bs_app, HD5L.out])]; rfl)
      have HO0 := Lib.hid ho; have HFX := Lib.hid (HF0.out.below hb HF0.out.lt)
      have HBX := Lib.hid (HB0.out.trans (hb.mono (by omega)))
      clear hy ho hb HF0 HB0 HD5 HD5L zD5; obtain ⟨u0, hu0⟩ : ∃ u0, u0 = t5 := ⟨_, rfl⟩
      clear hu0; go_wp2_with fail
      go_loopw [5, 6] (fun sv iv wr => ∃ (i : Nat) (y : List ByteArray), iv = .int .i64 i ∧ i ≤ m ∧ Hid (y = (headL n.data.toList v ++ (es.take i).flatMap fun e => evLines e z.data.toList).map str) ∧ Hid (wr.ownsRow (w.heap.size + 1) 9 1 sv y.length (y.map Value.string)) ∧ Hid (Blk F #[.string n, .int .i64 v, .slice af m cf] 26 wr) ∧ Hid (Below w.heap.size w wr)) (fun _ iv _ => m - (intOf iv).toNat)
      case atStart => exact ⟨0, y0, rfl, Nat.zero_le _, Lib.hid (by rw [HY0.out]; simp), HO0, HFX, HBX⟩
      case round =>
        clear HY0 HO0 HFX HBX; obtain ⟨i, y, rfl, hi, HY, HO, HF, HB⟩ := hrel; have HN := Lib.hid (show y.length ≤ 4000 from by
          rw [HY.out, List.length_map, List.length_append]
          have h1 := flat_len z.data.toList (es.take i)
          have h2 : (headL n.data.toList v).length = 5 := rfl
          rw [List.length_take] at h1
          omega)
        have hsr := HB.out.size; have f0 : wr.cell? ⟨F, 0, none⟩ = some (.string n) := HF.out.cell 0
        have f1 : wr.cell? ⟨F, 1, none⟩ = some (.int .i64 v) := HF.out.cell 1
        have f2 : wr.cell? ⟨F, 2, none⟩ = some (.slice af m cf) := HF.out.cell 2
        by_cases hlt : i < m
        · have hx : i < es.length := by rw [← HM.out]; exact hlt
          have hlti : (i : Int) < m := by omega
          obtain ⟨bo, oo, hao, hbo, hcell⟩ := HE.out.form (by omega)
          subst hao; obtain ⟨e, hee⟩ : ∃ e, e = es[i] := ⟨_, rfl⟩
          have hge : es[i]? = some e := by rw [hee]; exact List.getElem?_eq_getElem hx
          obtain ⟨hE1, x, x', hC, hX, hX'⟩ := hcell i e hge
          have hck := HEV.out e (by rw [hee]; exact List.getElem_mem hx)
          have HT := Lib.hid (show es.take (i + 1) = es.take i ++ [e] from by rw [List.take_succ_eq_append_getElem hx, hee])
          obtain ⟨c0, c1, c2, c3, c4, c5, c6, c7, c8, c9, c10, c11, c12⟩ := hC.below (w' := wr) hbo (HB.out.mono hBB)
          obtain ⟨ax, cx, hxx, hI⟩ := hX; obtain ⟨ay, cy, hyy, hI'⟩ := hX'; subst hxx hyy
          have HIX : Hid (∀ V : World, Below w.heap.size w V → Ints BB V ax e.days.ex) := Lib.hid (fun V h => hI.below (h.mono hBB))
          have HIR : Hid (∀ V : World, Below w.heap.size w V → Ints BB V ay e.days.xt) := Lib.hid (fun V h => hI'.below (h.mono hBB))
          obtain ⟨q0, q1, hsv, -, st0, st1, mi0, mi1, -, hls, hll⟩ := check_all hck.2
          have hus := right_size hck.1
          have hss := lab_size hls; have hsl := lab_size hll; have HH := Lib.hid ((Tt.serV_zero e.days).1 hsv).1
          have HDD := Lib.hid (head_days hsv)
          have hf0 := HH.out.f0; have hf1 := HH.out.f1; have hxn : e.days.ex.length ≤ 140 ∧ e.days.xt.length ≤ 140 := by have := HH.out.n; omega
          obtain ⟨ex, hex⟩ : ∃ q, q = e.days.ex.length := ⟨_, rfl⟩
          obtain ⟨xt, hxt⟩ : ∃ q, q = e.days.xt.length := ⟨_, rfl⟩
          have HEX := Lib.hid hex; have HXT := Lib.hid hxt; obtain ⟨W, hW⟩ : ∃ W, W = wr.alloc (.cells (evCells e (.slice ax e.days.ex.length cx) (.slice ay e.days.xt.length cy)) 82) := ⟨_, rfl⟩
          obtain ⟨G, hG⟩ : ∃ G, G = wr.heap.size := ⟨_, rfl⟩
          have HX := Lib.hid (show Below wr.heap.size wr W from by rw [hW]; exact below_box wr _)
          have HG := Lib.hid (show Blk G (evCells e (.slice ax e.days.ex.length cx) (.slice ay e.days.xt.length cy)) 82 W from by rw [hW, hG]; exact Blk.new wr _ 82)
          have HFW := Lib.hid (HF.out.below HX.out HF.out.lt)
          have HOW := Lib.hid (ownsRow_below HO.out HX.out)
          have HBW := Lib.hid (HB.out.trans (HX.out.mono hsr))
          have HC : Hid (Calls Tryz.prog 111 #[serVal e.days (.slice ax e.days.ex.length cx) (.slice ay e.days.xt.length cy)] W fun x w' => x = .returned (.tuple #[.string ⟨(Tt.ruleL e.days).toArray⟩, .int .i64 0]) ∧ Below W.heap.size W w') := Lib.hid (format111 e.days BB W hsv ax ay cx cy (by have := HX.out.size; omega) (HIX.out W HBW.out) (HIR.out W HBW.out))
          unfold evCells at hW
          unfold serVal at HC
          rw [← hex] at c7 hW HG HC hxn
          rw [← hxt] at c8 hW HG HC hxn
          clear hcell hee hge hE1 hC hI hI' hck hbo hls hll hex hxt HF HO HB hsv; go_upto_region 6 with (fail)
          rw [← hW, ← hG]; clear hW hG c0 c1 c2 c3 c4 c5 c6 c7 c8 c9 c10 c11 c12 f0 f1 f2; obtain ⟨c0, c1, c2, c3, c4, c5, c6, c7, c8, c9, c10, c11, c12⟩ := EvBox.c (e := e) (v := .slice ax ex cx) (v' := .slice ay xt cy) HG.out
          simp only [Nat.zero_add] at c0 c1 c2 c3 c4 c5 c6 c7 c8 c9 c10 c11 c12
          go_wp2_with fail
          refine HC.out.mono ?_
          rintro x Z ⟨rfl, hb⟩; obtain ⟨R, hR⟩ : ∃ R, R = (⟨(Tt.ruleL e.days).toArray⟩ : ByteArray) := ⟨_, rfl⟩
          have zR : R.size ≤ 80 := by rw [hR, size_mk]; exact rule_len HH.out
          rw [← hR]; have HRR := Lib.hid (show R.data.toList = Tt.ruleL e.days from by rw [hR])
          have HGZ := Lib.hid (HG.out.below hb HG.out.lt)
          have HFZ := Lib.hid (HFW.out.below hb HFW.out.lt)
          have HOZ := Lib.hid (ownsRow_below HOW.out hb)
          have HBZ := Lib.hid (HBW.out.trans (hb.mono HBW.out.size))
          have HXZ := Lib.hid (HX.out.trans (hb.mono HX.out.size))
          clear hR hb HG HFW HOW HBW HX HC c0 c1 c2 c3 c4 c5 c6 c7 c8 c9 c10 c11 c12; obtain ⟨D1, hD1⟩ : ∃ q, q = (⟨(Tt.decim e.seq.toNat 1 []).toArray⟩ : ByteArray) := ⟨_, rfl⟩
          have HD1 := Lib.hid hD1.symm
          have HD1L := Lib.hid (show D1.data.toList = Lib.decDigits e.seq.toNat from by rw [hD1]; exact Tt.decim_1 _)
          have zD1 : D1.size ≤ 5 := by rw [Lib.size_eq, HD1L.out]; exact Tt.dec_len 4 _ (by omega)
          obtain ⟨D2, hD2⟩ : ∃ q, q = (⟨(Tt.decim e.mins.toNat 1 []).toArray⟩ : ByteArray) := ⟨_, rfl⟩
          have HD2 := Lib.hid hD2.symm
          have HD2L := Lib.hid (show D2.data.toList = Lib.decDigits e.mins.toNat from by rw [hD2]; exact Tt.decim_1 _)
          have zD2 : D2.size ≤ 5 := by rw [Lib.size_eq, HD2L.out]; exact Tt.dec_len 4 _ (by omega)
          obtain ⟨T1, hT1⟩ : ∃ q, q = (⟨(Tt.stampL e.days.first e.start).toArray⟩ : ByteArray) := ⟨_, rfl⟩
          have HT1 := Lib.hid hT1.symm
          have HT1L := Lib.hid (show T1.data.toList = Tt.stampL e.days.first e.start from by rw [hT1])
          have zT1 : T1.size = 15 := by rw [hT1]; exact str_size (Tt.stampL_len _ _)
          clear hD1 hD2 hT1; go_upto_region 7 with (fail)
          go_cut [5] (fun s5 wx => ∃ yq : List ByteArray, yq.length ≤ 4000 + 6 ∧ Hid (yq = y ++ (evA e z.data.toList).map str) ∧ Hid (wx.ownsRow (w.heap.size + 1) 9 1 s5 yq.length (yq.map Value.string)) ∧ Hid (Blk F #[.string n, .int .i64 v, .slice (some ⟨bo, oo, none⟩) m cf] 26 wx) ∧ Hid (Blk G (evCells e (.slice ax ex cx) (.slice ay xt cy)) 82 wx) ∧ Hid (Below w.heap.size w wx))
          case first =>
            refine wp_region_tail 26 (by kernel_rfl) (fun listed a x => ∃ (l0 l1 l2 l3 l4 l5 l6 l7 l8 l9 l10 l11 l12 l13 l14 l15 l16 l17 l18 l19 l20 l21 l22 l23 l24 l25 : Bool) (t36 t37 t38 t39 t40 t41 t42 t43 t44 t45 t46 t47 t48 t49 t50 t51 t52 t53 t54 t55 t56 t57 t58 t59 t60 t61 : Value), listed = #[l0, l1, l2, l3, l4, l5, l6, l7, l8, l9, l10, l11, l12, l13, l14, l15, l16, l17, l18, l19, l20, l21, l22, l23, l24, l25, false, false] ∧ a = ⟨(.agg #[.string n, .int .i64 v, .slice (some ⟨bo, oo, none⟩) m cf] :: .string z :: .pointer (some ⟨F, 0, none⟩) :: undef :: .slice none 0 0 :: u5 :: .int .i64 i :: .pointer (some ⟨G, 0, none⟩) :: .string R :: .int .i64 0 :: t10 :: t11 :: t12 :: t13 :: t14 :: t15 :: t16 :: t17 :: .int .i64 i :: .pointer (some ⟨F, 2, none⟩) :: .slice (some ⟨bo, oo, none⟩) m cf :: .int .i64 m :: .bool true :: u23 :: u24 :: .pointer (some ⟨F, 2, none⟩) :: .slice (some ⟨bo, oo, none⟩) m cf :: .int .i64 i :: .pointer (some ⟨bo, oo + i * 13, none⟩) :: .agg #[.string e.uid, .int .i64 e.seq, .bool e.canc, .int .i64 e.days.first, .int .i64 e.days.last, .int .i64 e.days.every, .int .i64 e.days.wd, .slice ax ex cx, .slice ay xt cy, .int .i64 e.start, .int .i64 e.mins, .string e.summ, .string e.loc] :: .tuple #[.string R, .int .i64 0] :: .pointer (some ⟨G, 3, none⟩) :: .agg #[.int .i64 e.days.first, .int .i64 e.days.last, .int .i64 e.days.every, .int .i64 e.days.wd, .slice ax ex cx, .slice ay xt cy] :: .tuple #[.string R, .int .i64 0] :: .string R :: .int .i64 0 :: t36 :: t37 :: t38 :: t39 :: t40 :: t41 :: t42 :: t43 :: t44 :: t45 :: t46 :: t47 :: t48 :: t49 :: t50 :: t51 :: t52 :: t53 :: t54 :: t55 :: t56 :: t57 :: t58 :: t59 :: t60 :: t61 :: u62 :: u63 :: u64 :: u65 :: u66 :: u67 :: u68 :: u69 :: u70 :: u71 :: u72 :: u73 :: u74 :: u75 :: u76 :: u77 :: u78 :: u79 :: u80 :: u81 :: u82 :: u83 :: u84 :: u85 :: u86 :: u87 :: u88 :: u89 :: u90 :: u91 :: u92 :: u93 :: u94 :: u95 :: u96 :: u97 :: u98 :: u99 :: u100 :: u101 :: u102 :: u103 :: u104 :: u105 :: u106 :: u107 :: u108 :: u109 :: u110 :: u111 :: u112 :: u113 :: u114 :: u115 :: u116 :: u117 :: u118 :: u119 :: u120 :: u121 :: u122 :: u123 :: u124 :: u125 :: u126 :: undef :: undef :: undef :: []).toArray, []⟩ ∧ Hid (l0 = true → t36 = u5) ∧ Hid (l1 = true → t37 = .pointer (some ⟨G, 0, none⟩)) ∧ Hid (l2 = true → t38 = .string e.uid) ∧ Hid (l3 = true → t39 = .string (⟨#[85, 73, 68, 58]⟩ ++ e.uid)) ∧ Hid (l4 = true → t40 = .pointer (some ⟨G, 1, none⟩)) ∧ Hid (l5 = true → t41 = .int .i64 e.seq) ∧ Hid (l6 = true → t42 = .string D1) ∧ Hid (l7 = true → t43 = .string (⟨#[83, 69, 81, 85, 69, 78, 67, 69, 58]⟩ ++ D1)) ∧ Hid (l8 = true → t44 = .string z) ∧ Hid (l9 = true → t45 = .string (⟨#[68, 84, 83, 84, 65, 82, 84, 59, 84, 90, 73, 68, 61]⟩ ++ z)) ∧ Hid (l10 = true → t46 = .string (⟨#[68, 84, 83, 84, 65, 82, 84, 59, 84, 90, 73, 68, 61]⟩ ++ z ++ ⟨#[58]⟩)) ∧ Hid (l11 = true → t47 = .pointer (some ⟨G, 3, none⟩)) ∧ Hid (l12 = true → t48 = .pointer (some ⟨G, 3, none⟩)) ∧ Hid (l13 = true → t49 = .int .i64 e.days.first) ∧ Hid (l14 = true → t50 = .pointer (some ⟨G, 9, none⟩)) ∧ Hid (l15 = true → t51 = .int .i64 e.start) ∧ Hid (l16 = true → t52 = .string T1) ∧ Hid (l17 = true → t53 = .string (⟨#[68, 84, 83, 84, 65, 82, 84, 59, 84, 90, 73, 68, 61]⟩ ++ z ++ ⟨#[58]⟩ ++ T1)) ∧ Hid (l18 = true → t54 = .pointer (some ⟨G, 10, none⟩)) ∧ Hid (l19 = true → t55 = .int .i64 e.mins) ∧ Hid (l20 = true → t56 = .string D2) ∧ Hid (l21 = true → t57 = .string (⟨#[68, 85, 82, 65, 84, 73, 79, 78, 58, 80, 84]⟩ ++ D2)) ∧ Hid (l22 = true → t58 = .string (⟨#[68, 85, 82, 65, 84, 73, 79, 78, 58, 80, 84]⟩ ++ D2 ++ ⟨#[77]⟩)) ∧ Hid (l23 = true → t59 = .string R) ∧ Hid (l24 = true → t60 = .string (⟨#[82, 82, 85, 76, 69, 58]⟩ ++ R)) ∧ Hid (l25 = true → ∃ (g : Nat), t61 = .slice (some ⟨g, 0, none⟩) 6 6 ∧ Z.heap.size ≤ g ∧ Blk g #[.string (⟨#[66, 69, 71, 73, 78, 58, 86, 69, 86, 69, 78, 84]⟩ : ByteArray), .string (⟨#[85, 73, 68, 58]⟩ ++ e.uid), .string (⟨#[83, 69, 81, 85, 69, 78, 67, 69, 58]⟩ ++ D1), .string (⟨#[68, 84, 83, 84, 65, 82, 84, 59, 84, 90, 73, 68, 61]⟩ ++ z ++ ⟨#[58]⟩ ++ T1), .string (⟨#[68, 85, 82, 65, 84, 73, 79, 78, 58, 80, 84]⟩ ++ D2 ++ ⟨#[77]⟩), .string (⟨#[82, 82, 85, 76, 69, 58]⟩ ++ R)] 9 x) ∧ Hid (Made Z x)) (by decide) (by kernel_rfl) (by kernel_rfl) ?_ ?_ ?_ ?_
            · exact ⟨false, false, false, false, false, false, false, false, false, false, false, false, false, false, false, false, false, false, false, false, false, false, false, false, false, false, _, _, _, _, _, _, _, _, _, _, _, _, _, _, _, _, _, _, _, _, _, _, _, _, _, _, rfl, rfl, Lib.hid (fun h => by cases h), Lib.hid (fun h => by cases h), Lib.hid (fun h => by cases h), Lib.hid (fun h => by cases h), Lib.hid (fun h => by cases h), Lib.hid (fun h => by cases h), Lib.hid (fun h => by cases h), Lib.hid (fun h => by cases h), Lib.hid (fun h => by cases h), Lib.hid (fun h => by cases h), Lib.hid (fun h => by cases h), Lib.hid (fun h => by cases h), Lib.hid (fun h => by cases h), Lib.hid (fun h => by cases h), Lib.hid (fun h => by cases h), Lib.hid (fun h => by cases h), Lib.hid (fun h => by cases h), Lib.hid (fun h => by cases h), Lib.hid (fun h => by cases h), Lib.hid (fun h => by cases h), Lib.hid (fun h => by cases h), Lib.hid (fun h => by cases h), Lib.hid (fun h => by cases h), Lib.hid (fun h => by cases h), Lib.hid (fun h => by cases h), Lib.hid (fun h => by cases h), Lib.hid (Made.start Z)⟩
            · intro listed a x hj; obtain ⟨l0, hj⟩ := hj
              obtain ⟨l1, hj⟩ := hj; obtain ⟨l2, hj⟩ := hj; obtain ⟨l3, hj⟩ := hj; obtain ⟨l4, hj⟩ := hj; obtain ⟨l5, hj⟩ := hj; obtain ⟨l6, hj⟩ := hj; obtain ⟨l7, hj⟩ := hj; obtain ⟨l8, hj⟩ := hj; obtain ⟨l9, hj⟩ := hj; obtain ⟨l10, hj⟩ := hj; obtain ⟨l11, hj⟩ := hj; obtain ⟨l12, hj⟩ := hj; obtain ⟨l13, hj⟩ := hj; obtain ⟨l14, hj⟩ := hj; obtain ⟨l15, hj⟩ := hj; obtain ⟨l16, hj⟩ := hj; obtain ⟨l17, hj⟩ := hj; obtain ⟨l18, hj⟩ := hj; obtain ⟨l19, hj⟩ := hj; obtain ⟨l20, hj⟩ := hj; obtain ⟨l21, hj⟩ := hj; obtain ⟨l22, hj⟩ := hj; obtain ⟨l23, hj⟩ := hj; obtain ⟨l24, hj⟩ := hj; obtain ⟨l25, hj⟩ := hj; obtain ⟨t36, hj⟩ := hj; obtain ⟨t37, hj⟩ := hj; obtain ⟨t38, hj⟩ := hj; obtain ⟨t39, hj⟩ := hj; obtain ⟨t40, hj⟩ := hj; obtain ⟨t41, hj⟩ := hj; obtain ⟨t42, hj⟩ := hj; obtain ⟨t43, hj⟩ := hj; obtain ⟨t44, hj⟩ := hj; obtain ⟨t45, hj⟩ := hj; obtain ⟨t46, hj⟩ := hj; obtain ⟨t47, hj⟩ := hj; obtain ⟨t48, hj⟩ := hj; obtain ⟨t49, hj⟩ := hj; obtain ⟨t50, hj⟩ := hj; obtain ⟨t51, hj⟩ := hj; obtain ⟨t52, hj⟩ := hj; obtain ⟨t53, hj⟩ := hj; obtain ⟨t54, hj⟩ := hj; obtain ⟨t55, hj⟩ := hj; obtain ⟨t56, hj⟩ := hj; obtain ⟨t57, hj⟩ := hj; obtain ⟨t58, hj⟩ := hj; obtain ⟨t59, hj⟩ := hj; obtain ⟨t60, hj⟩ := hj; obtain ⟨t61, hj⟩ := hj; obtain ⟨h1, -⟩ := hj; subst h1; exact ⟨rfl, fun k h1 h2 => by (have h2 : k < 28 := h2); rcases (show k = 26 ∨ k = 27 by omega) with rfl | rfl <;> rfl⟩
            · intro listed a x i hj hlt hu haf; obtain ⟨l0, hj⟩ := hj
              obtain ⟨l1, hj⟩ := hj; obtain ⟨l2, hj⟩ := hj; obtain ⟨l3, hj⟩ := hj; obtain ⟨l4, hj⟩ := hj; obtain ⟨l5, hj⟩ := hj; obtain ⟨l6, hj⟩ := hj; obtain ⟨l7, hj⟩ := hj; obtain ⟨l8, hj⟩ := hj; obtain ⟨l9, hj⟩ := hj; obtain ⟨l10, hj⟩ := hj; obtain ⟨l11, hj⟩ := hj; obtain ⟨l12, hj⟩ := hj; obtain ⟨l13, hj⟩ := hj; obtain ⟨l14, hj⟩ := hj; obtain ⟨l15, hj⟩ := hj; obtain ⟨l16, hj⟩ := hj; obtain ⟨l17, hj⟩ := hj; obtain ⟨l18, hj⟩ := hj; obtain ⟨l19, hj⟩ := hj; obtain ⟨l20, hj⟩ := hj; obtain ⟨l21, hj⟩ := hj; obtain ⟨l22, hj⟩ := hj; obtain ⟨l23, hj⟩ := hj; obtain ⟨l24, hj⟩ := hj; obtain ⟨l25, hj⟩ := hj; obtain ⟨t36, hj⟩ := hj; obtain ⟨t37, hj⟩ := hj; obtain ⟨t38, hj⟩ := hj; obtain ⟨t39, hj⟩ := hj; obtain ⟨t40, hj⟩ := hj; obtain ⟨t41, hj⟩ := hj; obtain ⟨t42, hj⟩ := hj; obtain ⟨t43, hj⟩ := hj; obtain ⟨t44, hj⟩ := hj; obtain ⟨t45, hj⟩ := hj; obtain ⟨t46, hj⟩ := hj; obtain ⟨t47, hj⟩ := hj; obtain ⟨t48, hj⟩ := hj; obtain ⟨t49, hj⟩ := hj; obtain ⟨t50, hj⟩ := hj; obtain ⟨t51, hj⟩ := hj; obtain ⟨t52, hj⟩ := hj; obtain ⟨t53, hj⟩ := hj; obtain ⟨t54, hj⟩ := hj; obtain ⟨t55, hj⟩ := hj; obtain ⟨t56, hj⟩ := hj; obtain ⟨t57, hj⟩ := hj; obtain ⟨t58, hj⟩ := hj; obtain ⟨t59, hj⟩ := hj; obtain ⟨t60, hj⟩ := hj; obtain ⟨t61, hj⟩ := hj; obtain ⟨hl_, hj⟩ := hj; obtain ⟨ha_, hj⟩ := hj; obtain ⟨H0, hj⟩ := hj; obtain ⟨H1, hj⟩ := hj; obtain ⟨H2, hj⟩ := hj; obtain ⟨H3, hj⟩ := hj; obtain ⟨H4, hj⟩ := hj; obtain ⟨H5, hj⟩ := hj; obtain ⟨H6, hj⟩ := hj; obtain ⟨H7, hj⟩ := hj; obtain ⟨H8, hj⟩ := hj; obtain ⟨H9, hj⟩ := hj; obtain ⟨H10, hj⟩ := hj; obtain ⟨H11, hj⟩ := hj; obtain ⟨H12, hj⟩ := hj; obtain ⟨H13, hj⟩ := hj; obtain ⟨H14, hj⟩ := hj; obtain ⟨H15, hj⟩ := hj; obtain ⟨H16, hj⟩ := hj; obtain ⟨H17, hj⟩ := hj; obtain ⟨H18, hj⟩ := hj; obtain ⟨H19, hj⟩ := hj; obtain ⟨H20, hj⟩ := hj; obtain ⟨H21, hj⟩ := hj; obtain ⟨H22, hj⟩ := hj; obtain ⟨H23, hj⟩ := hj; obtain ⟨H24, hj⟩ := hj; obtain ⟨H25, hj⟩ := hj; have HS := hj; clear hj; subst hl_; subst ha_; rcases (show ∀ i : Nat, i < 26 → (i = 0 ∨ i = 1 ∨ i = 2 ∨ i = 3 ∨ i = 4 ∨ i = 5 ∨ i = 6 ∨ i = 7 ∨ i = 8 ∨ i = 9 ∨ i = 10 ∨ i = 11 ∨ i = 12 ∨ i = 13 ∨ i = 14 ∨ i = 15 ∨ i = 16 ∨ i = 17 ∨ i = 18 ∨ i = 19 ∨ i = 20 ∨ i = 21 ∨ i = 22 ∨ i = 23 ∨ i = 24 ∨ i = 25) by decide) i hlt with rfl | rfl | rfl | rfl | rfl | rfl | rfl | rfl | rfl | rfl | rfl | rfl | rfl | rfl | rfl | rfl | rfl | rfl | rfl | rfl | rfl | rfl | rfl | rfl | rfl | rfl
              · have haf := haf _ rfl; clear haf
                have hu : l0 = false := hu
                refine wpOp_of_list_any rfl fun QQ hQ => ?_
                have hQQ := Lib.hid hQ; clear hQ; simp only [List.getElem_toArray, List.getElem_cons_zero]
                go_wp2_with fail
                exact hQQ.out _ _ ⟨true, l1, l2, l3, l4, l5, l6, l7, l8, l9, l10, l11, l12, l13, l14, l15, l16, l17, l18, l19, l20, l21, l22, l23, l24, l25, _, _, _, _, _, _, _, _, _, _, _, _, _, _, _, _, _, _, _, _, _, _, _, _, _, _, rfl, rfl, Lib.hid (fun _ => rfl), H1, H2, H3, H4, H5, H6, H7, H8, H9, H10, H11, H12, H13, H14, H15, H16, H17, H18, H19, H20, H21, H22, H23, H24, H25, HS⟩
              · have haf := haf _ rfl; clear haf
                have hu : l1 = false := hu
                refine wpOp_of_list_any rfl fun QQ hQ => ?_
                have hQQ := Lib.hid hQ; clear hQ; simp only [List.getElem_toArray, List.getElem_cons_zero, List.getElem_cons_succ]
                go_wp2_with fail
                exact hQQ.out _ _ ⟨l0, true, l2, l3, l4, l5, l6, l7, l8, l9, l10, l11, l12, l13, l14, l15, l16, l17, l18, l19, l20, l21, l22, l23, l24, l25, _, _, _, _, _, _, _, _, _, _, _, _, _, _, _, _, _, _, _, _, _, _, _, _, _, _, rfl, rfl, H0, Lib.hid (fun _ => rfl), H2, H3, H4, H5, H6, H7, H8, H9, H10, H11, H12, H13, H14, H15, H16, H17, H18, H19, H20, H21, H22, H23, H24, H25, HS⟩
              · have haf := haf _ rfl; have q1 : l1 = true := haf ⟨1, Go.Ground.data⟩ (by simp) rfl
                clear haf; have hu : l2 = false := hu
                have e1 := (H1.out q1)
                subst e1; clear H1; obtain ⟨c0, c1, c2, c3, c4, c5, c6, c7, c8, c9, c10, c11, c12⟩ := EvBox.c (e := e) (v := .slice ax ex cx) (v' := .slice ay xt cy) (HS.out.blk HGZ.out)
                simp only [Nat.zero_add] at c0 c1 c2 c3 c4 c5 c6 c7 c8 c9 c10 c11 c12
                refine wpOp_of_list_any rfl fun QQ hQ => ?_
                have hQQ := Lib.hid hQ; clear hQ; simp only [List.getElem_toArray, List.getElem_cons_zero, List.getElem_cons_succ]
                go_wp2_with fail
                exact hQQ.out _ _ ⟨l0, l1, true, l3, l4, l5, l6, l7, l8, l9, l10, l11, l12, l13, l14, l15, l16, l17, l18, l19, l20, l21, l22, l23, l24, l25, _, _, _, _, _, _, _, _, _, _, _, _, _, _, _, _, _, _, _, _, _, _, _, _, _, _, rfl, rfl, H0, Lib.hid (fun _ => rfl), Lib.hid (fun _ => rfl), H3, H4, H5, H6, H7, H8, H9, H10, H11, H12, H13, H14, H15, H16, H17, H18, H19, H20, H21, H22, H23, H24, H25, HS⟩
              · have haf := haf _ rfl; have q2 : l2 = true := haf ⟨2, Go.Ground.data⟩ (by simp) rfl
                clear haf; have hu : l3 = false := hu
                have e2 := (H2.out q2)
                subst e2; clear H2; refine wpOp_of_list_any rfl fun QQ hQ => ?_
                have hQQ := Lib.hid hQ; clear hQ; simp only [List.getElem_toArray, List.getElem_cons_zero, List.getElem_cons_succ]
                go_wp2_with fail
                exact hQQ.out _ _ ⟨l0, l1, l2, true, l4, l5, l6, l7, l8, l9, l10, l11, l12, l13, l14, l15, l16, l17, l18, l19, l20, l21, l22, l23, l24, l25, _, _, _, _, _, _, _, _, _, _, _, _, _, _, _, _, _, _, _, _, _, _, _, _, _, _, rfl, rfl, H0, H1, Lib.hid (fun _ => rfl), Lib.hid (fun _ => rfl), H4, H5, H6, H7, H8, H9, H10, H11, H12, H13, H14, H15, H16, H17, H18, H19, H20, H21, H22, H23, H24, H25, HS⟩
              · have haf := haf _ rfl; clear haf
                have hu : l4 = false := hu
                refine wpOp_of_list_any rfl fun QQ hQ => ?_
                have hQQ := Lib.hid hQ; clear hQ; simp only [List.getElem_toArray, List.getElem_cons_zero, List.getElem_cons_succ]
                go_wp2_with fail
                exact hQQ.out _ _ ⟨l0, l1, l2, l3, true, l5, l6, l7, l8, l9, l10, l11, l12, l13, l14, l15, l16, l17, l18, l19, l20, l21, l22, l23, l24, l25, _, _, _, _, _, _, _, _, _, _, _, _, _, _, _, _, _, _, _, _, _, _, _, _, _, _, rfl, rfl, H0, H1, H2, H3, Lib.hid (fun _ => rfl), H5, H6, H7, H8, H9, H10, H11, H12, H13, H14, H15, H16, H17, H18, H19, H20, H21, H22, H23, H24, H25, HS⟩
              · have haf := haf _ rfl; have q4 : l4 = true := haf ⟨4, Go.Ground.data⟩ (by simp) rfl
                clear haf; have hu : l5 = false := hu
                have e4 := (H4.out q4)
                subst e4; clear H4; obtain ⟨c0, c1, c2, c3, c4, c5, c6, c7, c8, c9, c10, c11, c12⟩ := EvBox.c (e := e) (v := .slice ax ex cx) (v' := .slice ay xt cy) (HS.out.blk HGZ.out)
                simp only [Nat.zero_add] at c0 c1 c2 c3 c4 c5 c6 c7 c8 c9 c10 c11 c12
                refine wpOp_of_list_any rfl fun QQ hQ => ?_
                have hQQ := Lib.hid hQ; clear hQ; simp only [List.getElem_toArray, List.getElem_cons_zero, List.getElem_cons_succ]
                go_wp2_with fail
                exact hQQ.out _ _ ⟨l0, l1, l2, l3, l4, true, l6, l7, l8, l9, l10, l11, l12, l13, l14, l15, l16, l17, l18, l19, l20, l21, l22, l23, l24, l25, _, _, _, _, _, _, _, _, _, _, _, _, _, _, _, _, _, _, _, _, _, _, _, _, _, _, rfl, rfl, H0, H1, H2, H3, Lib.hid (fun _ => rfl), Lib.hid (fun _ => rfl), H6, H7, H8, H9, H10, H11, H12, H13, H14, H15, H16, H17, H18, H19, H20, H21, H22, H23, H24, H25, HS⟩
              · have haf := haf _ rfl; have q5 : l5 = true := haf ⟨5, Go.Ground.data⟩ (by simp) rfl
                clear haf; have hu : l6 = false := hu
                have e5 := (H5.out q5)
                subst e5; clear H5; refine wpOp_of_list_any rfl fun QQ hQ => ?_
                have hQQ := Lib.hid hQ; clear hQ; simp only [List.getElem_toArray, List.getElem_cons_zero, List.getElem_cons_succ]
                go_wp2_with fail
                refine (decimal110 e.seq 1 x (by omega) (by omega) (by omega) (by omega)).mono ?_
                rintro y1 x1 ⟨rfl, hb1⟩; rw [show (1 : Int).toNat = 1 from rfl, HD1.out]
                have hk := Kept.made (B := Z.heap.size) hb1
                have HS1 := Lib.hid (HS.out.then hb1)
                clear hb1; go_wp2_with fail
                exact hQQ.out _ _ ⟨l0, l1, l2, l3, l4, l5, true, l7, l8, l9, l10, l11, l12, l13, l14, l15, l16, l17, l18, l19, l20, l21, l22, l23, l24, l25, _, _, _, _, _, _, _, _, _, _, _, _, _, _, _, _, _, _, _, _, _, _, _, _, _, _, rfl, rfl, H0, H1, H2, H3, H4, Lib.hid (fun _ => rfl), Lib.hid (fun _ => rfl), H7, H8, H9, H10, H11, H12, H13, H14, H15, H16, H17, H18, H19, H20, H21, H22, H23, H24, Lib.hid (fun h => (by obtain ⟨g, e, c0, c1⟩ := H25.out h; exact ⟨g, e, c0, (hk _ _ _ c0 c1)⟩)), HS1⟩
              · have haf := haf _ rfl; have q6 : l6 = true := haf ⟨6, Go.Ground.data⟩ (by simp) rfl
                clear haf; have hu : l7 = false := hu
                have e6 := (H6.out q6)
                subst e6; clear H6; refine wpOp_of_list_any rfl fun QQ hQ => ?_
                have hQQ := Lib.hid hQ; clear hQ; simp only [List.getElem_toArray, List.getElem_cons_zero, List.getElem_cons_succ]
                go_wp2_with fail
                exact hQQ.out _ _ ⟨l0, l1, l2, l3, l4, l5, l6, true, l8, l9, l10, l11, l12, l13, l14, l15, l16, l17, l18, l19, l20, l21, l22, l23, l24, l25, _, _, _, _, _, _, _, _, _, _, _, _, _, _, _, _, _, _, _, _, _, _, _, _, _, _, rfl, rfl, H0, H1, H2, H3, H4, H5, Lib.hid (fun _ => rfl), Lib.hid (fun _ => rfl), H8, H9, H10, H11, H12, H13, H14, H15, H16, H17, H18, H19, H20, H21, H22, H23, H24, H25, HS⟩
              · have haf := haf _ rfl; clear haf
                have hu : l8 = false := hu
                refine wpOp_of_list_any rfl fun QQ hQ => ?_
                have hQQ := Lib.hid hQ; clear hQ; simp only [List.getElem_toArray, List.getElem_cons_zero, List.getElem_cons_succ]
                go_wp2_with fail
                exact hQQ.out _ _ ⟨l0, l1, l2, l3, l4, l5, l6, l7, true, l9, l10, l11, l12, l13, l14, l15, l16, l17, l18, l19, l20, l21, l22, l23, l24, l25, _, _, _, _, _, _, _, _, _, _, _, _, _, _, _, _, _, _, _, _, _, _, _, _, _, _, rfl, rfl, H0, H1, H2, H3, H4, H5, H6, H7, Lib.hid (fun _ => rfl), H9, H10, H11, H12, H13, H14, H15, H16, H17, H18, H19, H20, H21, H22, H23, H24, H25, HS⟩
              · have haf := haf _ rfl; have q8 : l8 = true := haf ⟨8, Go.Ground.data⟩ (by simp) rfl
                clear haf; have hu : l9 = false := hu
                have e8 := (H8.out q8)
                subst e8; clear H8; refine wpOp_of_list_any rfl fun QQ hQ => ?_
                have hQQ := Lib.hid hQ; clear hQ; simp only [List.getElem_toArray, List.getElem_cons_zero, List.getElem_cons_succ]
                go_wp2_with fail
                exact hQQ.out _ _ ⟨l0, l1, l2, l3, l4, l5, l6, l7, l8, true, l10, l11, l12, l13, l14, l15, l16, l17, l18, l19, l20, l21, l22, l23, l24, l25, _, _, _, _, _, _, _, _, _, _, _, _, _, _, _, _, _, _, _, _, _, _, _, _, _, _, rfl, rfl, H0, H1, H2, H3, H4, H5, H6, H7, Lib.hid (fun _ => rfl), Lib.hid (fun _ => rfl), H10, H11, H12, H13, H14, H15, H16, H17, H18, H19, H20, H21, H22, H23, H24, H25, HS⟩
              · have haf := haf _ rfl; have q9 : l9 = true := haf ⟨9, Go.Ground.data⟩ (by simp) rfl
                clear haf; have hu : l10 = false := hu
                have e9 := (H9.out q9)
                subst e9; clear H9; refine wpOp_of_list_any rfl fun QQ hQ => ?_
                have hQQ := Lib.hid hQ; clear hQ; simp only [List.getElem_toArray, List.getElem_cons_zero, List.getElem_cons_succ]
                go_wp2_with fail
                exact hQQ.out _ _ ⟨l0, l1, l2, l3, l4, l5, l6, l7, l8, l9, true, l11, l12, l13, l14, l15, l16, l17, l18, l19, l20, l21, l22, l23, l24, l25, _, _, _, _, _, _, _, _, _, _, _, _, _, _, _, _, _, _, _, _, _, _, _, _, _, _, rfl, rfl, H0, H1, H2, H3, H4, H5, H6, H7, H8, Lib.hid (fun _ => rfl), Lib.hid (fun _ => rfl), H11, H12, H13, H14, H15, H16, H17, H18, H19, H20, H21, H22, H23, H24, H25, HS⟩
              · have haf := haf _ rfl; clear haf
                have hu : l11 = false := hu
                refine wpOp_of_list_any rfl fun QQ hQ => ?_
                have hQQ := Lib.hid hQ; clear hQ; simp only [List.getElem_toArray, List.getElem_cons_zero, List.getElem_cons_succ]
                go_wp2_with fail
                exact hQQ.out _ _ ⟨l0, l1, l2, l3, l4, l5, l6, l7, l8, l9, l10, true, l12, l13, l14, l15, l16, l17, l18, l19, l20, l21, l22, l23, l24, l25, _, _, _, _, _, _, _, _, _, _, _, _, _, _, _, _, _, _, _, _, _, _, _, _, _, _, rfl, rfl, H0, H1, H2, H3, H4, H5, H6, H7, H8, H9, H10, Lib.hid (fun _ => rfl), H12, H13, H14, H15, H16, H17, H18, H19, H20, H21, H22, H23, H24, H25, HS⟩
              · have haf := haf _ rfl; have q11 : l11 = true := haf ⟨11, Go.Ground.data⟩ (by simp) rfl
                clear haf; have hu : l12 = false := hu
                have e11 := (H11.out q11)
                subst e11; clear H11; refine wpOp_of_list_any rfl fun QQ hQ => ?_
                have hQQ := Lib.hid hQ; clear hQ; simp only [List.getElem_toArray, List.getElem_cons_zero, List.getElem_cons_succ]
                go_wp2_with fail
                exact hQQ.out _ _ ⟨l0, l1, l2, l3, l4, l5, l6, l7, l8, l9, l10, l11, true, l13, l14, l15, l16, l17, l18, l19, l20, l21, l22, l23, l24, l25, _, _, _, _, _, _, _, _, _, _, _, _, _, _, _, _, _, _, _, _, _, _, _, _, _, _, rfl, rfl, H0, H1, H2, H3, H4, H5, H6, H7, H8, H9, H10, Lib.hid (fun _ => rfl), Lib.hid (fun _ => rfl), H13, H14, H15, H16, H17, H18, H19, H20, H21, H22, H23, H24, H25, HS⟩
              · have haf := haf _ rfl; have q12 : l12 = true := haf ⟨12, Go.Ground.data⟩ (by simp) rfl
                clear haf; have hu : l13 = false := hu
                have e12 := (H12.out q12)
                subst e12; clear H12; obtain ⟨c0, c1, c2, c3, c4, c5, c6, c7, c8, c9, c10, c11, c12⟩ := EvBox.c (e := e) (v := .slice ax ex cx) (v' := .slice ay xt cy) (HS.out.blk HGZ.out)
                simp only [Nat.zero_add] at c0 c1 c2 c3 c4 c5 c6 c7 c8 c9 c10 c11 c12
                refine wpOp_of_list_any rfl fun QQ hQ => ?_
                have hQQ := Lib.hid hQ; clear hQ; simp only [List.getElem_toArray, List.getElem_cons_zero, List.getElem_cons_succ]
                go_wp2_with fail
                exact hQQ.out _ _ ⟨l0, l1, l2, l3, l4, l5, l6, l7, l8, l9, l10, l11, l12, true, l14, l15, l16, l17, l18, l19, l20, l21, l22, l23, l24, l25, _, _, _, _, _, _, _, _, _, _, _, _, _, _, _, _, _, _, _, _, _, _, _, _, _, _, rfl, rfl, H0, H1, H2, H3, H4, H5, H6, H7, H8, H9, H10, H11, Lib.hid (fun _ => rfl), Lib.hid (fun _ => rfl), H14, H15, H16, H17, H18, H19, H20, H21, H22, H23, H24, H25, HS⟩
              · have haf := haf _ rfl; clear haf
                have hu : l14 = false := hu
                refine wpOp_of_list_any rfl fun QQ hQ => ?_
                have hQQ := Lib.hid hQ; clear hQ; simp only [List.getElem_toArray, List.getElem_cons_zero, List.getElem_cons_succ]
                go_wp2_with fail
                exact hQQ.out _ _ ⟨l0, l1, l2, l3, l4, l5, l6, l7, l8, l9, l10, l11, l12, l13, true, l15, l16, l17, l18, l19, l20, l21, l22, l23, l24, l25, _, _, _, _, _, _, _, _, _, _, _, _, _, _, _, _, _, _, _, _, _, _, _, _, _, _, rfl, rfl, H0, H1, H2, H3, H4, H5, H6, H7, H8, H9, H10, H11, H12, H13, Lib.hid (fun _ => rfl), H15, H16, H17, H18, H19, H20, H21, H22, H23, H24, H25, HS⟩
              · have haf := haf _ rfl; have q14 : l14 = true := haf ⟨14, Go.Ground.data⟩ (by simp) rfl
                clear haf; have hu : l15 = false := hu
                have e14 := (H14.out q14)
                subst e14; clear H14; obtain ⟨c0, c1, c2, c3, c4, c5, c6, c7, c8, c9, c10, c11, c12⟩ := EvBox.c (e := e) (v := .slice ax ex cx) (v' := .slice ay xt cy) (HS.out.blk HGZ.out)
                simp only [Nat.zero_add] at c0 c1 c2 c3 c4 c5 c6 c7 c8 c9 c10 c11 c12
                refine wpOp_of_list_any rfl fun QQ hQ => ?_
                have hQQ := Lib.hid hQ; clear hQ; simp only [List.getElem_toArray, List.getElem_cons_zero, List.getElem_cons_succ]
                go_wp2_with fail
                exact hQQ.out _ _ ⟨l0, l1, l2, l3, l4, l5, l6, l7, l8, l9, l10, l11, l12, l13, l14, true, l16, l17, l18, l19, l20, l21, l22, l23, l24, l25, _, _, _, _, _, _, _, _, _, _, _, _, _, _, _, _, _, _, _, _, _, _, _, _, _, _, rfl, rfl, H0, H1, H2, H3, H4, H5, H6, H7, H8, H9, H10, H11, H12, H13, Lib.hid (fun _ => rfl), Lib.hid (fun _ => rfl), H16, H17, H18, H19, H20, H21, H22, H23, H24, H25, HS⟩
              · have haf := haf _ rfl; have q13 : l13 = true := haf ⟨13, Go.Ground.data⟩ (by simp) rfl
                have q15 : l15 = true := haf ⟨15, Go.Ground.data⟩ (by simp) rfl
                clear haf; have hu : l16 = false := hu
                have e13 := (H13.out q13)
                subst e13; clear H13; have e15 := (H15.out q15)
                subst e15; clear H15; refine wpOp_of_list_any rfl fun QQ hQ => ?_
                have hQQ := Lib.hid hQ; clear hQ; simp only [List.getElem_toArray, List.getElem_cons_zero, List.getElem_cons_succ]
                go_wp2_with fail
                refine (stamp112 e.days.first e.start x hf0 hf1 st0 st1).mono ?_
                rintro y1 x1 ⟨rfl, hb1⟩; rw [HT1.out]
                have hk := Kept.made (B := Z.heap.size) hb1
                have HS1 := Lib.hid (HS.out.then hb1)
                clear hb1; go_wp2_with fail
                exact hQQ.out _ _ ⟨l0, l1, l2, l3, l4, l5, l6, l7, l8, l9, l10, l11, l12, l13, l14, l15, true, l17, l18, l19, l20, l21, l22, l23, l24, l25, _, _, _, _, _, _, _, _, _, _, _, _, _, _, _, _, _, _, _, _, _, _, _, _, _, _, rfl, rfl, H0, H1, H2, H3, H4, H5, H6, H7, H8, H9, H10, H11, H12, Lib.hid (fun _ => rfl), H14, Lib.hid (fun _ => rfl), Lib.hid (fun _ => rfl), H17, H18, H19, H20, H21, H22, H23, H24, Lib.hid (fun h => (by obtain ⟨g, e, c0, c1⟩ := H25.out h; exact ⟨g, e, c0, (hk _ _ _ c0 c1)⟩)), HS1⟩
              · have haf := haf _ rfl; have q10 : l10 = true := haf ⟨10, Go.Ground.data⟩ (by simp) rfl
                have q16 : l16 = true := haf ⟨16, Go.Ground.data⟩ (by simp) rfl
                clear haf; have hu : l17 = false := hu
                have e10 := (H10.out q10)
                subst e10; clear H10; have e16 := (H16.out q16)
                subst e16; clear H16; refine wpOp_of_list_any rfl fun QQ hQ => ?_
                have hQQ := Lib.hid hQ; clear hQ; simp only [List.getElem_toArray, List.getElem_cons_zero, List.getElem_cons_succ]
                go_wp2_with fail
                exact hQQ.out _ _ ⟨l0, l1, l2, l3, l4, l5, l6, l7, l8, l9, l10, l11, l12, l13, l14, l15, l16, true, l18, l19, l20, l21, l22, l23, l24, l25, _, _, _, _, _, _, _, _, _, _, _, _, _, _, _, _, _, _, _, _, _, _, _, _, _, _, rfl, rfl, H0, H1, H2, H3, H4, H5, H6, H7, H8, H9, Lib.hid (fun _ => rfl), H11, H12, H13, H14, H15, Lib.hid (fun _ => rfl), Lib.hid (fun _ => rfl), H18, H19, H20, H21, H22, H23, H24, H25, HS⟩
              · have haf := haf _ rfl; clear haf
                have hu : l18 = false := hu
                refine wpOp_of_list_any rfl fun QQ hQ => ?_
                have hQQ := Lib.hid hQ; clear hQ; simp only [List.getElem_toArray, List.getElem_cons_zero, List.getElem_cons_succ]
                go_wp2_with fail
                exact hQQ.out _ _ ⟨l0, l1, l2, l3, l4, l5, l6, l7, l8, l9, l10, l11, l12, l13, l14, l15, l16, l17, true, l19, l20, l21, l22, l23, l24, l25, _, _, _, _, _, _, _, _, _, _, _, _, _, _, _, _, _, _, _, _, _, _, _, _, _, _, rfl, rfl, H0, H1, H2, H3, H4, H5, H6, H7, H8, H9, H10, H11, H12, H13, H14, H15, H16, H17, Lib.hid (fun _ => rfl), H19, H20, H21, H22, H23, H24, H25, HS⟩
              · have haf := haf _ rfl; have q18 : l18 = true := haf ⟨18, Go.Ground.data⟩ (by simp) rfl
                clear haf; have hu : l19 = false := hu
                have e18 := (H18.out q18)
                subst e18; clear H18; obtain ⟨c0, c1, c2, c3, c4, c5, c6, c7, c8, c9, c10, c11, c12⟩ := EvBox.c (e := e) (v := .slice ax ex cx) (v' := .slice ay xt cy) (HS.out.blk HGZ.out)
                simp only [Nat.zero_add] at c0 c1 c2 c3 c4 c5 c6 c7 c8 c9 c10 c11 c12
                refine wpOp_of_list_any rfl fun QQ hQ => ?_
                have hQQ := Lib.hid hQ; clear hQ; simp only [List.getElem_toArray, List.getElem_cons_zero, List.getElem_cons_succ]
                go_wp2_with fail
                exact hQQ.out _ _ ⟨l0, l1, l2, l3, l4, l5, l6, l7, l8, l9, l10, l11, l12, l13, l14, l15, l16, l17, l18, true, l20, l21, l22, l23, l24, l25, _, _, _, _, _, _, _, _, _, _, _, _, _, _, _, _, _, _, _, _, _, _, _, _, _, _, rfl, rfl, H0, H1, H2, H3, H4, H5, H6, H7, H8, H9, H10, H11, H12, H13, H14, H15, H16, H17, Lib.hid (fun _ => rfl), Lib.hid (fun _ => rfl), H20, H21, H22, H23, H24, H25, HS⟩
              · have haf := haf _ rfl; have q19 : l19 = true := haf ⟨19, Go.Ground.data⟩ (by simp) rfl
                clear haf; have hu : l20 = false := hu
                have e19 := (H19.out q19)
                subst e19; clear H19; refine wpOp_of_list_any rfl fun QQ hQ => ?_
                have hQQ := Lib.hid hQ; clear hQ; simp only [List.getElem_toArray, List.getElem_cons_zero, List.getElem_cons_succ]
                go_wp2_with fail
                refine (decimal110 e.mins 1 x (by omega) (by omega) (by omega) (by omega)).mono ?_
                rintro y1 x1 ⟨rfl, hb1⟩; rw [show (1 : Int).toNat = 1 from rfl, HD2.out]
                have hk := Kept.made (B := Z.heap.size) hb1
                have HS1 := Lib.hid (HS.out.then hb1)
                clear hb1; go_wp2_with fail
                exact hQQ.out _ _ ⟨l0, l1, l2, l3, l4, l5, l6, l7, l8, l9, l10, l11, l12, l13, l14, l15, l16, l17, l18, l19, true, l21, l22, l23, l24, l25, _, _, _, _, _, _, _, _, _, _, _, _, _, _, _, _, _, _, _, _, _, _, _, _, _, _, rfl, rfl, H0, H1, H2, H3, H4, H5, H6, H7, H8, H9, H10, H11, H12, H13, H14, H15, H16, H17, H18, Lib.hid (fun _ => rfl), Lib.hid (fun _ => rfl), H21, H22, H23, H24, Lib.hid (fun h => (by obtain ⟨g, e, c0, c1⟩ := H25.out h; exact ⟨g, e, c0, (hk _ _ _ c0 c1)⟩)), HS1⟩
              · have haf := haf _ rfl; have q20 : l20 = true := haf ⟨20, Go.Ground.data⟩ (by simp) rfl
                clear haf; have hu : l21 = false := hu
                have e20 := (H20.out q20)
                subst e20; clear H20; refine wpOp_of_list_any rfl fun QQ hQ => ?_
                have hQQ := Lib.hid hQ; clear hQ; simp only [List.getElem_toArray, List.getElem_cons_zero, List.getElem_cons_succ]
                go_wp2_with fail
                exact hQQ.out _ _ ⟨l0, l1, l2, l3, l4, l5, l6, l7, l8, l9, l10, l11, l12, l13, l14, l15, l16, l17, l18, l19, l20, true, l22, l23, l24, l25, _, _, _, _, _, _, _, _, _, _, _, _, _, _, _, _, _, _, _, _, _, _, _, _, _, _, rfl, rfl, H0, H1, H2, H3, H4, H5, H6, H7, H8, H9, H10, H11, H12, H13, H14, H15, H16, H17, H18, H19, Lib.hid (fun _ => rfl), Lib.hid (fun _ => rfl), H22, H23, H24, H25, HS⟩
              · have haf := haf _ rfl; have q21 : l21 = true := haf ⟨21, Go.Ground.data⟩ (by simp) rfl
                clear haf; have hu : l22 = false := hu
                have e21 := (H21.out q21)
                subst e21; clear H21; refine wpOp_of_list_any rfl fun QQ hQ => ?_
                have hQQ := Lib.hid hQ; clear hQ; simp only [List.getElem_toArray, List.getElem_cons_zero, List.getElem_cons_succ]
                go_wp2_with fail
                exact hQQ.out _ _ ⟨l0, l1, l2, l3, l4, l5, l6, l7, l8, l9, l10, l11, l12, l13, l14, l15, l16, l17, l18, l19, l20, l21, true, l23, l24, l25, _, _, _, _, _, _, _, _, _, _, _, _, _, _, _, _, _, _, _, _, _, _, _, _, _, _, rfl, rfl, H0, H1, H2, H3, H4, H5, H6, H7, H8, H9, H10, H11, H12, H13, H14, H15, H16, H17, H18, H19, H20, Lib.hid (fun _ => rfl), Lib.hid (fun _ => rfl), H23, H24, H25, HS⟩
              · have haf := haf _ rfl; clear haf
                have hu : l23 = false := hu
                refine wpOp_of_list_any rfl fun QQ hQ => ?_
                have hQQ := Lib.hid hQ; clear hQ; simp only [List.getElem_toArray, List.getElem_cons_zero, List.getElem_cons_succ]
                go_wp2_with fail
                exact hQQ.out _ _ ⟨l0, l1, l2, l3, l4, l5, l6, l7, l8, l9, l10, l11, l12, l13, l14, l15, l16, l17, l18, l19, l20, l21, l22, true, l24, l25, _, _, _, _, _, _, _, _, _, _, _, _, _, _, _, _, _, _, _, _, _, _, _, _, _, _, rfl, rfl, H0, H1, H2, H3, H4, H5, H6, H7, H8, H9, H10, H11, H12, H13, H14, H15, H16, H17, H18, H19, H20, H21, H22, Lib.hid (fun _ => rfl), H24, H25, HS⟩
              · have haf := haf _ rfl; have q23 : l23 = true := haf ⟨23, Go.Ground.data⟩ (by simp) rfl
                clear haf; have hu : l24 = false := hu
                have e23 := (H23.out q23)
                subst e23; clear H23; refine wpOp_of_list_any rfl fun QQ hQ => ?_
                have hQQ := Lib.hid hQ; clear hQ; simp only [List.getElem_toArray, List.getElem_cons_zero, List.getElem_cons_succ]
                go_wp2_with fail
                exact hQQ.out _ _ ⟨l0, l1, l2, l3, l4, l5, l6, l7, l8, l9, l10, l11, l12, l13, l14, l15, l16, l17, l18, l19, l20, l21, l22, l23, true, l25, _, _, _, _, _, _, _, _, _, _, _, _, _, _, _, _, _, _, _, _, _, _, _, _, _, _, rfl, rfl, H0, H1, H2, H3, H4, H5, H6, H7, H8, H9, H10, H11, H12, H13, H14, H15, H16, H17, H18, H19, H20, H21, H22, Lib.hid (fun _ => rfl), Lib.hid (fun _ => rfl), H25, HS⟩
              · have haf := haf _ rfl; have q3 : l3 = true := haf ⟨3, Go.Ground.data⟩ (by simp) rfl
                have q7 : l7 = true := haf ⟨7, Go.Ground.data⟩ (by simp) rfl
                have q17 : l17 = true := haf ⟨17, Go.Ground.data⟩ (by simp) rfl
                have q22 : l22 = true := haf ⟨22, Go.Ground.data⟩ (by simp) rfl
                have q24 : l24 = true := haf ⟨24, Go.Ground.data⟩ (by simp) rfl
                clear haf; have hu : l25 = false := hu
                have e3 := (H3.out q3)
                subst e3; clear H3; have e7 := (H7.out q7)
                subst e7; clear H7; have e17 := (H17.out q17)
                subst e17; clear H17; have e22 := (H22.out q22)
                subst e22; clear H22; have e24 := (H24.out q24)
                subst e24; clear H24; refine wpOp_of_list_any rfl fun QQ hQ => ?_
                have hQQ := Lib.hid hQ; clear hQ; simp only [List.getElem_toArray, List.getElem_cons_zero, List.getElem_cons_succ]
                go_wp2_with fail
                exact hQQ.out _ _ ⟨l0, l1, l2, l3, l4, l5, l6, l7, l8, l9, l10, l11, l12, l13, l14, l15, l16, l17, l18, l19, l20, l21, l22, l23, l24, true, _, _, _, _, _, _, _, _, _, _, _, _, _, _, _, _, _, _, _, _, _, _, _, _, _, _, rfl, rfl, H0, H1, H2, Lib.hid (fun _ => rfl), H4, H5, H6, Lib.hid (fun _ => rfl), H8, H9, H10, H11, H12, H13, H14, H15, H16, Lib.hid (fun _ => rfl), H18, H19, H20, H21, Lib.hid (fun _ => rfl), H23, Lib.hid (fun _ => rfl), Lib.hid (fun _ => ⟨_, rfl, HS.out.below.size, Blk.new x _ _⟩), Lib.hid (HS.out.alloc _)⟩
            · intro listed a x hj hall; obtain ⟨l0, hj⟩ := hj
              obtain ⟨l1, hj⟩ := hj; obtain ⟨l2, hj⟩ := hj; obtain ⟨l3, hj⟩ := hj; obtain ⟨l4, hj⟩ := hj; obtain ⟨l5, hj⟩ := hj; obtain ⟨l6, hj⟩ := hj; obtain ⟨l7, hj⟩ := hj; obtain ⟨l8, hj⟩ := hj; obtain ⟨l9, hj⟩ := hj; obtain ⟨l10, hj⟩ := hj; obtain ⟨l11, hj⟩ := hj; obtain ⟨l12, hj⟩ := hj; obtain ⟨l13, hj⟩ := hj; obtain ⟨l14, hj⟩ := hj; obtain ⟨l15, hj⟩ := hj; obtain ⟨l16, hj⟩ := hj; obtain ⟨l17, hj⟩ := hj; obtain ⟨l18, hj⟩ := hj; obtain ⟨l19, hj⟩ := hj; obtain ⟨l20, hj⟩ := hj; obtain ⟨l21, hj⟩ := hj; obtain ⟨l22, hj⟩ := hj; obtain ⟨l23, hj⟩ := hj; obtain ⟨l24, hj⟩ := hj; obtain ⟨l25, hj⟩ := hj; obtain ⟨t36, hj⟩ := hj; obtain ⟨t37, hj⟩ := hj; obtain ⟨t38, hj⟩ := hj; obtain ⟨t39, hj⟩ := hj; obtain ⟨t40, hj⟩ := hj; obtain ⟨t41, hj⟩ := hj; obtain ⟨t42, hj⟩ := hj; obtain ⟨t43, hj⟩ := hj; obtain ⟨t44, hj⟩ := hj; obtain ⟨t45, hj⟩ := hj; obtain ⟨t46, hj⟩ := hj; obtain ⟨t47, hj⟩ := hj; obtain ⟨t48, hj⟩ := hj; obtain ⟨t49, hj⟩ := hj; obtain ⟨t50, hj⟩ := hj; obtain ⟨t51, hj⟩ := hj; obtain ⟨t52, hj⟩ := hj; obtain ⟨t53, hj⟩ := hj; obtain ⟨t54, hj⟩ := hj; obtain ⟨t55, hj⟩ := hj; obtain ⟨t56, hj⟩ := hj; obtain ⟨t57, hj⟩ := hj; obtain ⟨t58, hj⟩ := hj; obtain ⟨t59, hj⟩ := hj; obtain ⟨t60, hj⟩ := hj; obtain ⟨t61, hj⟩ := hj; obtain ⟨hl_, hj⟩ := hj; obtain ⟨ha_, hj⟩ := hj; obtain ⟨H0, hj⟩ := hj; obtain ⟨H1, hj⟩ := hj; obtain ⟨H2, hj⟩ := hj; obtain ⟨H3, hj⟩ := hj; obtain ⟨H4, hj⟩ := hj; obtain ⟨H5, hj⟩ := hj; obtain ⟨H6, hj⟩ := hj; obtain ⟨H7, hj⟩ := hj; obtain ⟨H8, hj⟩ := hj; obtain ⟨H9, hj⟩ := hj; obtain ⟨H10, hj⟩ := hj; obtain ⟨H11, hj⟩ := hj; obtain ⟨H12, hj⟩ := hj; obtain ⟨H13, hj⟩ := hj; obtain ⟨H14, hj⟩ := hj; obtain ⟨H15, hj⟩ := hj; obtain ⟨H16, hj⟩ := hj; obtain ⟨H17, hj⟩ := hj; obtain ⟨H18, hj⟩ := hj; obtain ⟨H19, hj⟩ := hj; obtain ⟨H20, hj⟩ := hj; obtain ⟨H21, hj⟩ := hj; obtain ⟨H22, hj⟩ := hj; obtain ⟨H23, hj⟩ := hj; obtain ⟨H24, hj⟩ := hj; obtain ⟨H25, hj⟩ := hj; have HS := hj; clear hj; subst hl_; subst ha_; have q0 : l0 = true := hall 0 (by omega)
              have q25 : l25 = true := hall 25 (by omega)
              clear hall; have e0 := (H0.out q0)
              subst e0; obtain ⟨g25, e25, c25_0, c25_1⟩ := (H25.out q25)
              subst e25; have HOx := Lib.hid (row_made HOZ.out HS.out.below)
              have HBx := Lib.hid (HBZ.out.trans (HS.out.below.mono HBZ.out.size))
              have HFx := Lib.hid (HS.out.blk HFZ.out)
              have HGx := Lib.hid (HS.out.blk HGZ.out)
              have hxs := HBx.out.size; refine tail_any (fun a x => ∃ (t5 t36 t37 t38 t39 t40 t41 t42 t43 t44 t45 t46 t47 t48 t49 t50 t51 t52 t53 t54 t55 t56 t57 t58 t59 t60 t61 t62 : Value), a = ⟨(.agg #[.string n, .int .i64 v, .slice (some ⟨bo, oo, none⟩) m cf] :: .string z :: .pointer (some ⟨F, 0, none⟩) :: undef :: .slice none 0 0 :: t5 :: .int .i64 i :: .pointer (some ⟨G, 0, none⟩) :: .string R :: .int .i64 0 :: t10 :: t11 :: t12 :: t13 :: t14 :: t15 :: t16 :: t17 :: .int .i64 i :: .pointer (some ⟨F, 2, none⟩) :: .slice (some ⟨bo, oo, none⟩) m cf :: .int .i64 m :: .bool true :: u23 :: u24 :: .pointer (some ⟨F, 2, none⟩) :: .slice (some ⟨bo, oo, none⟩) m cf :: .int .i64 i :: .pointer (some ⟨bo, oo + i * 13, none⟩) :: .agg #[.string e.uid, .int .i64 e.seq, .bool e.canc, .int .i64 e.days.first, .int .i64 e.days.last, .int .i64 e.days.every, .int .i64 e.days.wd, .slice ax ex cx, .slice ay xt cy, .int .i64 e.start, .int .i64 e.mins, .string e.summ, .string e.loc] :: .tuple #[.string R, .int .i64 0] :: .pointer (some ⟨G, 3, none⟩) :: .agg #[.int .i64 e.days.first, .int .i64 e.days.last, .int .i64 e.days.every, .int .i64 e.days.wd, .slice ax ex cx, .slice ay xt cy] :: .tuple #[.string R, .int .i64 0] :: .string R :: .int .i64 0 :: t36 :: t37 :: t38 :: t39 :: t40 :: t41 :: t42 :: t43 :: t44 :: t45 :: t46 :: t47 :: t48 :: t49 :: t50 :: t51 :: t52 :: t53 :: t54 :: t55 :: t56 :: t57 :: t58 :: t59 :: t60 :: t61 :: t62 :: u63 :: u64 :: u65 :: u66 :: u67 :: u68 :: u69 :: u70 :: u71 :: u72 :: u73 :: u74 :: u75 :: u76 :: u77 :: u78 :: u79 :: u80 :: u81 :: u82 :: u83 :: u84 :: u85 :: u86 :: u87 :: u88 :: u89 :: u90 :: u91 :: u92 :: u93 :: u94 :: u95 :: u96 :: u97 :: u98 :: u99 :: u100 :: u101 :: u102 :: u103 :: u104 :: u105 :: u106 :: u107 :: u108 :: u109 :: u110 :: u111 :: u112 :: u113 :: u114 :: u115 :: u116 :: u117 :: u118 :: u119 :: u120 :: u121 :: u122 :: u123 :: u124 :: u125 :: u126 :: undef :: undef :: undef :: []).toArray, []⟩ ∧ x.ownsRow (w.heap.size + 1) 9 1 t5 (y.length + 6) (y.map Value.string ++ [.string (⟨#[66, 69, 71, 73, 78, 58, 86, 69, 86, 69, 78, 84]⟩ : ByteArray), .string (⟨#[85, 73, 68, 58]⟩ ++ e.uid), .string (⟨#[83, 69, 81, 85, 69, 78, 67, 69, 58]⟩ ++ D1), .string (⟨#[68, 84, 83, 84, 65, 82, 84, 59, 84, 90, 73, 68, 61]⟩ ++ z ++ ⟨#[58]⟩ ++ T1), .string (⟨#[68, 85, 82, 65, 84, 73, 79, 78, 58, 80, 84]⟩ ++ D2 ++ ⟨#[77]⟩), .string (⟨#[82, 82, 85, 76, 69, 58]⟩ ++ R)]) ∧ Below w.heap.size w x ∧ Blk F #[.string n, .int .i64 v, .slice (some ⟨bo, oo, none⟩) m cf] 26 x ∧ Blk G (evCells e (.slice ax ex cx) (.slice ay xt cy)) 82 x) ?_ fun QQ hQ => ?_
              · intro a x hpost; obtain ⟨t5, hpost⟩ := hpost
                obtain ⟨t36, hpost⟩ := hpost; obtain ⟨t37, hpost⟩ := hpost; obtain ⟨t38, hpost⟩ := hpost; obtain ⟨t39, hpost⟩ := hpost; obtain ⟨t40, hpost⟩ := hpost; obtain ⟨t41, hpost⟩ := hpost; obtain ⟨t42, hpost⟩ := hpost; obtain ⟨t43, hpost⟩ := hpost; obtain ⟨t44, hpost⟩ := hpost; obtain ⟨t45, hpost⟩ := hpost; obtain ⟨t46, hpost⟩ := hpost; obtain ⟨t47, hpost⟩ := hpost; obtain ⟨t48, hpost⟩ := hpost; obtain ⟨t49, hpost⟩ := hpost; obtain ⟨t50, hpost⟩ := hpost; obtain ⟨t51, hpost⟩ := hpost; obtain ⟨t52, hpost⟩ := hpost; obtain ⟨t53, hpost⟩ := hpost; obtain ⟨t54, hpost⟩ := hpost; obtain ⟨t55, hpost⟩ := hpost; obtain ⟨t56, hpost⟩ := hpost; obtain ⟨t57, hpost⟩ := hpost; obtain ⟨t58, hpost⟩ := hpost; obtain ⟨t59, hpost⟩ := hpost; obtain ⟨t60, hpost⟩ := hpost; obtain ⟨t61, hpost⟩ := hpost; obtain ⟨t62, hpost⟩ := hpost; obtain ⟨ha_, hpost⟩ := hpost; subst ha_; obtain ⟨ho, hb, hf, hg⟩ := hpost; obtain ⟨y7, hy⟩ : ∃ q, q = y ++ (evA e z.data.toList).map str := ⟨_, rfl⟩
                have HO7 := Lib.hid (show x.ownsRow (w.heap.size + 1) 9 1 t5 y7.length (y7.map Value.string) from by rw [hy, List.length_append, List.map_append, show ((evA e z.data.toList).map str).length = 6 from rfl, show ((evA e z.data.toList).map str).map Value.string = [.string (⟨#[66, 69, 71, 73, 78, 58, 86, 69, 86, 69, 78, 84]⟩ : ByteArray), .string (⟨#[85, 73, 68, 58]⟩ ++ e.uid), .string (⟨#[83, 69, 81, 85, 69, 78, 67, 69, 58]⟩ ++ D1), .string (⟨#[68, 84, 83, 84, 65, 82, 84, 59, 84, 90, 73, 68, 61]⟩ ++ z ++ ⟨#[58]⟩ ++ T1), .string (⟨#[68, 85, 82, 65, 84, 73, 79, 78, 58, 80, 84]⟩ ++ D2 ++ ⟨#[77]⟩), .string (⟨#[82, 82, 85, 76, 69, 58]⟩ ++ R)] from by unfold evA; simp only [List.map_cons, List.map_nil]; rw [show str ([85, 73, 68, 58] ++ e.uid.data.toList) = (⟨#[85, 73, 68, 58]⟩ ++ e.uid) from (mk_bytes (by simp only [bs_app])).symm, show str ([83, 69, 81, 85, 69, 78, 67, 69, 58] ++ Lib.decDigits e.seq.toNat) = (⟨#[83, 69, 81, 85, 69, 78, 67, 69, 58]⟩ ++ D1) from (mk_bytes (by simp only [bs_app, HD1L.out])).symm, show str ([68, 84, 83, 84, 65, 82, 84, 59, 84, 90, 73, 68, 61] ++ z.data.toList ++ [58] ++ Tt.stampL e.days.first e.start) = (⟨#[68, 84, 83, 84, 65, 82, 84, 59, 84, 90, 73, 68, 61]⟩ ++ z ++ ⟨#[58]⟩ ++ T1) from (mk_bytes (by simp only [bs_app, HT1L.out])).symm, show str ([68, 85, 82, 65, 84, 73, 79, 78, 58, 80, 84] ++ Lib.decDigits e.mins.toNat ++ [77]) = (⟨#[68, 85, 82, 65, 84, 73, 79, 78, 58, 80, 84]⟩ ++ D2 ++ ⟨#[77]⟩) from (mk_bytes (by simp only [bs_app, HD2L.out])).symm, show str ([82, 82, 85, 76, 69, 58] ++ Tt.ruleL e.days) = (⟨#[82, 82, 85, 76, 69, 58]⟩ ++ R) from (mk_bytes (by simp only [bs_app, HRR.out])).symm]; rfl]; exact ho)
                have HYA := Lib.hid hy; have HNy7 := Lib.hid (show y7.length ≤ 4000 + 6 from by rw [hy, List.length_append, show ((evA e z.data.toList).map str).length = 6 from rfl]; have := HN.out; omega)
                have HB7 := Lib.hid hb; have HF7 := Lib.hid hf; have HG7 := Lib.hid hg; go_wp2_with fail
                go_meet
                exact ⟨y7, HNy7.out, HYA, HO7, HF7, HG7, HB7⟩
              have hQQ := Lib.hid hQ; clear hQ; simp only [List.drop_succ_cons, List.drop_zero]
              go_wp2_with (at_builtin; refine wpList_append_own_at _ rfl (.tmp 36) (.tmp 61) 60 rfl (w.heap.size + 1) 9 i1 (.string ⟨#[]⟩) 1 16 Tryz.underlying60 hj hy0 hy2 hy3 rfl (by decide) _ _ _ rfl HOx.out ⟨g25, 0, none⟩ 6 6 [.string (⟨#[66, 69, 71, 73, 78, 58, 86, 69, 86, 69, 78, 84]⟩ : ByteArray), .string (⟨#[85, 73, 68, 58]⟩ ++ e.uid), .string (⟨#[83, 69, 81, 85, 69, 78, 67, 69, 58]⟩ ++ D1), .string (⟨#[68, 84, 83, 84, 65, 82, 84, 59, 84, 90, 73, 68, 61]⟩ ++ z ++ ⟨#[58]⟩ ++ T1), .string (⟨#[68, 85, 82, 65, 84, 73, 79, 78, 58, 80, 84]⟩ ++ D2 ++ ⟨#[77]⟩), .string (⟨#[82, 82, 85, 76, 69, 58]⟩ ++ R)] rfl rfl (blk_cells c25_1) (by intro u hu; simp only [List.mem_cons, List.not_mem_nil, or_false] at hu; rcases hu with rfl | rfl | rfl | rfl | rfl | rfl <;> rfl) (by unfold maxLen; have := HN.out; omega) (by have := HN.out; omega) (by have := HFx.out.lt; omega) ?_)
              intro v' x8 hown8 hgrow _ hat; have HA8 := Lib.hid (grown_keep HOx.out (Nat.le_succ _) HBx.out hgrow)
              have HO8 := Lib.hid hown8; clear hown8 hgrow hat; go_wp2_with fail
              exact hQQ.out _ _ ⟨_, _, _, _, _, _, _, _, _, _, _, _, _, _, _, _, _, _, _, _, _, _, _, _, _, _, _, _, rfl, HO8.out, HA8.out.1, HA8.out.2 _ _ _ (by decide) HFx.out, HA8.out.2 _ _ _ (by decide) HGx.out⟩
          case rest =>
            clear HD1 HD2 HT1 HD1L HD2L HT1L HRR zD1 zD2 zT1 HGZ HFZ HOZ HBZ HXZ; obtain ⟨y7, hn7, HYA, HO7, HF7, HG7, HB7⟩ := hcut; have HNy7 := Lib.hid hn7; clear hn7; obtain ⟨c0, c1, c2, c3, c4, c5, c6, c7, c8, c9, c10, c11, c12⟩ := EvBox.c (e := e) (v := .slice ax ex cx) (v' := .slice ay xt cy) HG7.out
            simp only [Nat.zero_add] at c0 c1 c2 c3 c4 c5 c6 c7 c8 c9 c10 c11 c12
            go_upto_if 67 with (fail)
            go_cut [5] (fun s5 wx => ∃ yq : List ByteArray, yq.length ≤ 4000 + 7 ∧ Hid (yq = y ++ (evA e z.data.toList ++ evX e z.data.toList).map str) ∧ Hid (wx.ownsRow (w.heap.size + 1) 9 1 s5 yq.length (yq.map Value.string)) ∧ Hid (Blk F #[.string n, .int .i64 v, .slice (some ⟨bo, oo, none⟩) m cf] 26 wx) ∧ Hid (Blk G (evCells e (.slice ax ex cx) (.slice ay xt cy)) 82 wx) ∧ Hid (Below w.heap.size w wx))
            case first =>
              by_cases hopt : e.days.ex = []
              · have hx0 : ¬ (0 : Int) < ex := by have h1 := HEX.out; rw [hopt, List.length_nil] at h1; omega
                go_wp2_with fail
                go_meet
                exact ⟨y7, by have := HNy7.out; omega, Lib.hid (by rw [HYA.out]; unfold evX; rw [if_pos hopt, List.append_nil]), HO7, HF7, HG7, HB7⟩
              · have hx0 : (0 : Int) < ex := by have h1 := HEX.out; have h2 : e.days.ex.length ≠ 0 := fun h => hopt (List.eq_nil_of_length_eq_zero h); omega
                have HTX : Hid (Calls Tryz.prog 113 #[.slice ax ex cx, .int .i64 e.start] wc fun x_ w' => x_ = .returned (.string ⟨(Tt.stampsL e.start e.days.ex).toArray⟩) ∧ Below wc.heap.size wc w') := Lib.hid (by have h := stamps113 e.days.ex ax cx e.start BB wc (Nat.le_trans hBB HB7.out.size) (HIX.out wc HB7.out) (by have := HEX.out; omega) HDD.out.1 st0 st1; rw [← HEX.out] at h; exact h)
                go_wp2_with fail
                refine (HTX.out).mono ?_
                rintro x_ Wx1 ⟨rfl, hb⟩; obtain ⟨tx1, ht⟩ : ∃ t, t = (⟨(Tt.stampsL e.start e.days.ex).toArray⟩ : ByteArray) := ⟨_, rfl⟩
                have ztx1 : tx1.size ≤ 16000 := by rw [ht, size_mk]; exact Nat.le_trans (Tt.stampsL_len _ _) (by have := HEX.out; omega)
                rw [← ht]; have HTx1 := Lib.hid (show tx1.data.toList = Tt.stampsL e.start e.days.ex from by rw [ht])
                clear ht; clear c0 c1 c2 c3 c4 c5 c6 c7 c8 c9 c10 c11 c12; have HOx1 := Lib.hid (ownsRow_below HO7.out hb)
                have HFx1 := Lib.hid (HF7.out.below hb HF7.out.lt)
                have HGx1 := Lib.hid (HG7.out.below hb HG7.out.lt)
                have HBx1 := Lib.hid (HB7.out.trans (hb.mono HB7.out.size))
                clear hb HO7 HF7 HG7 HB7; clear HTX; obtain ⟨Sx2, hs⟩ : ∃ q : ByteArray, q = ⟨#[69, 88, 68, 65, 84, 69, 59, 84, 90, 73, 68, 61]⟩ ++ z ++ ⟨#[58]⟩ ++ tx1 := ⟨_, rfl⟩
                have HSS := Lib.hid hs; clear hs; go_wp2_with (at_builtin; refine wpList_append_own_at _ rfl (.tmp 68) (.tmp 79) 60 rfl (w.heap.size + 1) 9 i1 (.string ⟨#[]⟩) 1 16 Tryz.underlying60 hj hy0 hy2 hy3 rfl (by decide) _ _ _ rfl (HOx1.out.alloc _) ⟨Wx1.heap.size, 0, none⟩ 1 1 [.string Sx2] rfl rfl (by rw [HSS.out]; exact cell_one _ _ _) (by intro u hu; simp at hu; subst hu; rfl) (by unfold maxLen; have := HNy7.out; omega) (by have := HNy7.out; omega) (by have := HFx1.out.lt; simp; omega) ?_)
                intro vx2 Wx2 hown hgrow _ hat; have HA := Lib.hid (app_keep HOx1.out (Nat.le_succ _) HBx1.out hgrow)
                obtain ⟨yx2, hy⟩ : ∃ q, q = y7 ++ [str ([69, 88, 68, 65, 84, 69, 59, 84, 90, 73, 68, 61] ++ z.data.toList ++ [58] ++ Tt.stampsL e.start e.days.ex)] := ⟨_, rfl⟩
                have HZZ := Lib.hid (show str ([69, 88, 68, 65, 84, 69, 59, 84, 90, 73, 68, 61] ++ z.data.toList ++ [58] ++ Tt.stampsL e.start e.days.ex) = Sx2 from (mk_bytes (by rw [HSS.out]; simp only [bs_app, List.append_assoc, HTx1.out])).symm)
                have HOx2 := Lib.hid (show Wx2.ownsRow (w.heap.size + 1) 9 1 vx2 yx2.length (yx2.map Value.string) from by rw [hy, List.length_append, List.map_append, HZZ.out]; exact hown)
                clear HSS HZZ; have HYx2 := Lib.hid hy; have HNyx2 := Lib.hid (show yx2.length ≤ 4000 + 7 from by rw [hy, List.length_append]; have := HNy7.out; simp only [List.length_cons, List.length_nil]; omega)
                have HFx2 := Lib.hid (HA.out.2 _ _ _ (by decide) HFx1.out)
                have HGx2 := Lib.hid (HA.out.2 _ _ _ (by decide) HGx1.out)
                have HBx2 := Lib.hid HA.out.1
                clear hown hgrow hat hy HA HOx1 HFx1 HGx1 HBx1; go_wp2_with fail
                go_meet
                exact ⟨yx2, by have := HNyx2.out; omega, Lib.hid (by rw [HYx2.out, HYA.out]; unfold evX; rw [if_neg hopt]; simp only [List.map_append, List.map_cons, List.map_nil, List.append_assoc]), HOx2, HFx2, HGx2, HBx2⟩
            case rest =>
              clear HO7 HF7 HG7 HB7 HYA HNy7 c0 c1 c2 c3 c4 c5 c6 c7 c8 c9 c10 c11 c12; obtain ⟨yqx, hnq, HYA, HOcx, HFcx, HGcx, HBcx⟩ := hcut; have HNyqx := Lib.hid hnq; clear hnq; obtain ⟨c0, c1, c2, c3, c4, c5, c6, c7, c8, c9, c10, c11, c12⟩ := EvBox.c (e := e) (v := .slice ax ex cx) (v' := .slice ay xt cy) HGcx.out
              simp only [Nat.zero_add] at c0 c1 c2 c3 c4 c5 c6 c7 c8 c9 c10 c11 c12
              go_upto_if 85 with (fail)
              go_cut [5] (fun s5 wx => ∃ yq : List ByteArray, yq.length ≤ 4000 + 8 ∧ Hid (yq = y ++ (evA e z.data.toList ++ evX e z.data.toList ++ evR e z.data.toList).map str) ∧ Hid (wx.ownsRow (w.heap.size + 1) 9 1 s5 yq.length (yq.map Value.string)) ∧ Hid (Blk F #[.string n, .int .i64 v, .slice (some ⟨bo, oo, none⟩) m cf] 26 wx) ∧ Hid (Blk G (evCells e (.slice ax ex cx) (.slice ay xt cy)) 82 wx) ∧ Hid (Below w.heap.size w wx))
              case first =>
                by_cases hopt : e.days.xt = []
                · have hx0 : ¬ (0 : Int) < xt := by have h1 := HXT.out; rw [hopt, List.length_nil] at h1; omega
                  go_wp2_with fail
                  go_meet
                  exact ⟨yqx, by have := HNyqx.out; omega, Lib.hid (by rw [HYA.out]; unfold evR; rw [if_pos hopt, List.append_nil]), HOcx, HFcx, HGcx, HBcx⟩
                · have hx0 : (0 : Int) < xt := by have h1 := HXT.out; have h2 : e.days.xt.length ≠ 0 := fun h => hopt (List.eq_nil_of_length_eq_zero h); omega
                  have HTX : Hid (Calls Tryz.prog 113 #[.slice ay xt cy, .int .i64 e.start] wc fun x_ w' => x_ = .returned (.string ⟨(Tt.stampsL e.start e.days.xt).toArray⟩) ∧ Below wc.heap.size wc w') := Lib.hid (by have h := stamps113 e.days.xt ay cy e.start BB wc (Nat.le_trans hBB HBcx.out.size) (HIR.out wc HBcx.out) (by have := HXT.out; omega) HDD.out.2 st0 st1; rw [← HXT.out] at h; exact h)
                  go_wp2_with fail
                  refine (HTX.out).mono ?_
                  rintro x_ Wq1 ⟨rfl, hb⟩; obtain ⟨tq1, ht⟩ : ∃ t, t = (⟨(Tt.stampsL e.start e.days.xt).toArray⟩ : ByteArray) := ⟨_, rfl⟩
                  have ztq1 : tq1.size ≤ 16000 := by rw [ht, size_mk]; exact Nat.le_trans (Tt.stampsL_len _ _) (by have := HXT.out; omega)
                  rw [← ht]; have HTq1 := Lib.hid (show tq1.data.toList = Tt.stampsL e.start e.days.xt from by rw [ht])
                  clear ht; clear c0 c1 c2 c3 c4 c5 c6 c7 c8 c9 c10 c11 c12; have HOq1 := Lib.hid (ownsRow_below HOcx.out hb)
                  have HFq1 := Lib.hid (HFcx.out.below hb HFcx.out.lt)
                  have HGq1 := Lib.hid (HGcx.out.below hb HGcx.out.lt)
                  have HBq1 := Lib.hid (HBcx.out.trans (hb.mono HBcx.out.size))
                  clear hb HOcx HFcx HGcx HBcx; clear HTX; obtain ⟨Sq2, hs⟩ : ∃ q : ByteArray, q = ⟨#[82, 68, 65, 84, 69, 59, 84, 90, 73, 68, 61]⟩ ++ z ++ ⟨#[58]⟩ ++ tq1 := ⟨_, rfl⟩
                  have HSS := Lib.hid hs; clear hs; go_wp2_with (at_builtin; refine wpList_append_own_at _ rfl (.tmp 86) (.tmp 97) 60 rfl (w.heap.size + 1) 9 i1 (.string ⟨#[]⟩) 1 16 Tryz.underlying60 hj hy0 hy2 hy3 rfl (by decide) _ _ _ rfl (HOq1.out.alloc _) ⟨Wq1.heap.size, 0, none⟩ 1 1 [.string Sq2] rfl rfl (by rw [HSS.out]; exact cell_one _ _ _) (by intro u hu; simp at hu; subst hu; rfl) (by unfold maxLen; have := HNyqx.out; omega) (by have := HNyqx.out; omega) (by have := HFq1.out.lt; simp; omega) ?_)
                  intro vq2 Wq2 hown hgrow _ hat; have HA := Lib.hid (app_keep HOq1.out (Nat.le_succ _) HBq1.out hgrow)
                  obtain ⟨yq2, hy⟩ : ∃ q, q = yqx ++ [str ([82, 68, 65, 84, 69, 59, 84, 90, 73, 68, 61] ++ z.data.toList ++ [58] ++ Tt.stampsL e.start e.days.xt)] := ⟨_, rfl⟩
                  have HZZ := Lib.hid (show str ([82, 68, 65, 84, 69, 59, 84, 90, 73, 68, 61] ++ z.data.toList ++ [58] ++ Tt.stampsL e.start e.days.xt) = Sq2 from (mk_bytes (by rw [HSS.out]; simp only [bs_app, List.append_assoc, HTq1.out])).symm)
                  have HOq2 := Lib.hid (show Wq2.ownsRow (w.heap.size + 1) 9 1 vq2 yq2.length (yq2.map Value.string) from by rw [hy, List.length_append, List.map_append, HZZ.out]; exact hown)
                  clear HSS HZZ; have HYq2 := Lib.hid hy; have HNyq2 := Lib.hid (show yq2.length ≤ 4000 + 8 from by rw [hy, List.length_append]; have := HNyqx.out; simp only [List.length_cons, List.length_nil]; omega)
                  have HFq2 := Lib.hid (HA.out.2 _ _ _ (by decide) HFq1.out)
                  have HGq2 := Lib.hid (HA.out.2 _ _ _ (by decide) HGq1.out)
                  have HBq2 := Lib.hid HA.out.1
                  clear hown hgrow hat hy HA HOq1 HFq1 HGq1 HBq1; go_wp2_with fail
                  go_meet
                  exact ⟨yq2, by have := HNyq2.out; omega, Lib.hid (by rw [HYq2.out, HYA.out]; unfold evR; rw [if_neg hopt]; simp only [List.map_append, List.map_cons, List.map_nil, List.append_assoc]), HOq2, HFq2, HGq2, HBq2⟩
              case rest =>
                clear HOcx HFcx HGcx HBcx HYA HNyqx c0 c1 c2 c3 c4 c5 c6 c7 c8 c9 c10 c11 c12; obtain ⟨yqq, hnq, HYA, HOcq, HFcq, HGcq, HBcq⟩ := hcut; have HNyqq := Lib.hid hnq; clear hnq; obtain ⟨c0, c1, c2, c3, c4, c5, c6, c7, c8, c9, c10, c11, c12⟩ := EvBox.c (e := e) (v := .slice ax ex cx) (v' := .slice ay xt cy) HGcq.out
                simp only [Nat.zero_add] at c0 c1 c2 c3 c4 c5 c6 c7 c8 c9 c10 c11 c12
                go_wp2_with fail
                refine (refEscape_any e.summ wc (by omega)).mono ?_
                rintro x_ Wrq1 ⟨rfl, hb⟩; obtain ⟨trq1, ht⟩ : ∃ t, t = (⟨(Tt.esc e.summ.data.toList).toArray⟩ : ByteArray) := ⟨_, rfl⟩
                have ztrq1 : trq1.size ≤ 128 := by rw [ht, size_mk]; exact Nat.le_trans (Tt.esc_length _) (by rw [← Lib.size_eq]; omega)
                rw [← ht]; have HTrq1 := Lib.hid (show trq1.data.toList = Tt.esc e.summ.data.toList from by rw [ht])
                clear ht; clear c0 c1 c2 c3 c4 c5 c6 c7 c8 c9 c10 c11 c12; have HOrq1 := Lib.hid (ownsRow_below HOcq.out hb)
                have HFrq1 := Lib.hid (HFcq.out.below hb HFcq.out.lt)
                have HGrq1 := Lib.hid (HGcq.out.below hb HGcq.out.lt)
                have HBrq1 := Lib.hid (HBcq.out.trans (hb.mono HBcq.out.size))
                clear hb HOcq HFcq HGcq HBcq; obtain ⟨Srq2, hs⟩ : ∃ q : ByteArray, q = ⟨#[83, 85, 77, 77, 65, 82, 89, 58]⟩ ++ trq1 := ⟨_, rfl⟩
                have HSS := Lib.hid hs; clear hs; go_wp2_with (at_builtin; refine wpList_append_own_at _ rfl (.tmp 99) (.tmp 104) 60 rfl (w.heap.size + 1) 9 i1 (.string ⟨#[]⟩) 1 16 Tryz.underlying60 hj hy0 hy2 hy3 rfl (by decide) _ _ _ rfl (HOrq1.out.alloc _) ⟨Wrq1.heap.size, 0, none⟩ 1 1 [.string Srq2] rfl rfl (by rw [HSS.out]; exact cell_one _ _ _) (by intro u hu; simp at hu; subst hu; rfl) (by unfold maxLen; have := HNyqq.out; omega) (by have := HNyqq.out; omega) (by have := HFrq1.out.lt; simp; omega) ?_)
                intro vrq2 Wrq2 hown hgrow _ hat; have HA := Lib.hid (app_keep HOrq1.out (Nat.le_succ _) HBrq1.out hgrow)
                obtain ⟨yrq2, hy⟩ : ∃ q, q = yqq ++ [str ([83, 85, 77, 77, 65, 82, 89, 58] ++ Tt.esc e.summ.data.toList)] := ⟨_, rfl⟩
                have HZZ := Lib.hid (show str ([83, 85, 77, 77, 65, 82, 89, 58] ++ Tt.esc e.summ.data.toList) = Srq2 from (mk_bytes (by rw [HSS.out]; simp only [bs_app, HTrq1.out])).symm)
                have HOrq2 := Lib.hid (show Wrq2.ownsRow (w.heap.size + 1) 9 1 vrq2 yrq2.length (yrq2.map Value.string) from by rw [hy, List.length_append, List.map_append, HZZ.out]; exact hown)
                clear HSS HZZ; have HYrq2 := Lib.hid hy; have HNyrq2 := Lib.hid (show yrq2.length ≤ 4000 + 9 from by rw [hy, List.length_append]; have := HNyqq.out; simp only [List.length_cons, List.length_nil]; omega)
                have HFrq2 := Lib.hid (HA.out.2 _ _ _ (by decide) HFrq1.out)
                have HGrq2 := Lib.hid (HA.out.2 _ _ _ (by decide) HGrq1.out)
                have HBrq2 := Lib.hid HA.out.1
                clear hown hgrow hat hy HA HOrq1 HFrq1 HGrq1 HBrq1; have HYA := Lib.hid (show yrq2 = y ++ (evA e z.data.toList ++ evX e z.data.toList ++ evR e z.data.toList ++ evS e).map str from by rw [HYrq2.out, HYA.out]; simp only [evS, List.map_append, List.map_cons, List.map_nil, List.append_assoc])
                obtain ⟨c0, c1, c2, c3, c4, c5, c6, c7, c8, c9, c10, c11, c12⟩ := EvBox.c (e := e) (v := .slice ax ex cx) (v' := .slice ay xt cy) HGrq2.out
                simp only [Nat.zero_add] at c0 c1 c2 c3 c4 c5 c6 c7 c8 c9 c10 c11 c12
                go_upto_if 108 with (fail)
                obtain ⟨bl, hbl⟩ : ∃ bl, bl = (!e.loc.toList.isEmpty) := ⟨_, rfl⟩
                rw [← hbl]; have HBL := Lib.hid hbl; clear hbl; go_cut [5] (fun s5 wx => ∃ yq : List ByteArray, yq.length ≤ 4000 + 10 ∧ Hid (yq = y ++ (evA e z.data.toList ++ evX e z.data.toList ++ evR e z.data.toList ++ evS e ++ evL e).map str) ∧ Hid (wx.ownsRow (w.heap.size + 1) 9 1 s5 yq.length (yq.map Value.string)) ∧ Hid (Blk F #[.string n, .int .i64 v, .slice (some ⟨bo, oo, none⟩) m cf] 26 wx) ∧ Hid (Blk G (evCells e (.slice ax ex cx) (.slice ay xt cy)) 82 wx) ∧ Hid (Below w.heap.size w wx))
                case first =>
                  cases bl
                  · have HOPT := Lib.hid (loc_empty HBL.out)
                    go_wp2_with fail
                    go_meet
                    exact ⟨yrq2, by have := HNyrq2.out; omega, Lib.hid (by rw [HYA.out]; unfold evL; rw [if_pos HOPT.out, List.append_nil]), HOrq2, HFrq2, HGrq2, HBrq2⟩
                  · have HOPT := Lib.hid (loc_some HBL.out)
                    go_wp2_with fail
                    refine (refEscape_any e.loc Wrq2 (by omega)).mono ?_
                    rintro x_ Wl1 ⟨rfl, hb⟩; obtain ⟨tl1, ht⟩ : ∃ t, t = (⟨(Tt.esc e.loc.data.toList).toArray⟩ : ByteArray) := ⟨_, rfl⟩
                    have ztl1 : tl1.size ≤ 128 := by rw [ht, size_mk]; exact Nat.le_trans (Tt.esc_length _) (by rw [← Lib.size_eq]; omega)
                    rw [← ht]; have HTl1 := Lib.hid (show tl1.data.toList = Tt.esc e.loc.data.toList from by rw [ht])
                    clear ht; clear c0 c1 c2 c3 c4 c5 c6 c7 c8 c9 c10 c11 c12; have HOl1 := Lib.hid (ownsRow_below HOrq2.out hb)
                    have HFl1 := Lib.hid (HFrq2.out.below hb HFrq2.out.lt)
                    have HGl1 := Lib.hid (HGrq2.out.below hb HGrq2.out.lt)
                    have HBl1 := Lib.hid (HBrq2.out.trans (hb.mono HBrq2.out.size))
                    clear hb HOrq2 HFrq2 HGrq2 HBrq2; obtain ⟨Sl2, hs⟩ : ∃ q : ByteArray, q = ⟨#[76, 79, 67, 65, 84, 73, 79, 78, 58]⟩ ++ tl1 := ⟨_, rfl⟩
                    have HSS := Lib.hid hs; clear hs; go_wp2_with (at_builtin; refine wpList_append_own_at _ rfl (.tmp 109) (.tmp 114) 60 rfl (w.heap.size + 1) 9 i1 (.string ⟨#[]⟩) 1 16 Tryz.underlying60 hj hy0 hy2 hy3 rfl (by decide) _ _ _ rfl (HOl1.out.alloc _) ⟨Wl1.heap.size, 0, none⟩ 1 1 [.string Sl2] rfl rfl (by rw [HSS.out]; exact cell_one _ _ _) (by intro u hu; simp at hu; subst hu; rfl) (by unfold maxLen; have := HNyrq2.out; omega) (by have := HNyrq2.out; omega) (by have := HFl1.out.lt; simp; omega) ?_)
                    intro vl2 Wl2 hown hgrow _ hat; have HA := Lib.hid (app_keep HOl1.out (Nat.le_succ _) HBl1.out hgrow)
                    obtain ⟨yl2, hy⟩ : ∃ q, q = yrq2 ++ [str ([76, 79, 67, 65, 84, 73, 79, 78, 58] ++ Tt.esc e.loc.data.toList)] := ⟨_, rfl⟩
                    have HZZ := Lib.hid (show str ([76, 79, 67, 65, 84, 73, 79, 78, 58] ++ Tt.esc e.loc.data.toList) = Sl2 from (mk_bytes (by rw [HSS.out]; simp only [bs_app, HTl1.out])).symm)
                    have HOl2 := Lib.hid (show Wl2.ownsRow (w.heap.size + 1) 9 1 vl2 yl2.length (yl2.map Value.string) from by rw [hy, List.length_append, List.map_append, HZZ.out]; exact hown)
                    clear HSS HZZ; have HYl2 := Lib.hid hy; have HNyl2 := Lib.hid (show yl2.length ≤ 4000 + 10 from by rw [hy, List.length_append]; have := HNyrq2.out; simp only [List.length_cons, List.length_nil]; omega)
                    have HFl2 := Lib.hid (HA.out.2 _ _ _ (by decide) HFl1.out)
                    have HGl2 := Lib.hid (HA.out.2 _ _ _ (by decide) HGl1.out)
                    have HBl2 := Lib.hid HA.out.1
                    clear hown hgrow hat hy HA HOl1 HFl1 HGl1 HBl1; go_wp2_with fail
                    go_meet
                    exact ⟨yl2, by have := HNyl2.out; omega, Lib.hid (by rw [HYl2.out, HYA.out]; unfold evL; rw [if_neg HOPT.out]; simp only [List.map_append, List.map_cons, List.map_nil, List.append_assoc]), HOl2, HFl2, HGl2, HBl2⟩
                case rest =>
                  clear HOrq2 HFrq2 HGrq2 HBrq2 HYA HNyrq2 c0 c1 c2 c3 c4 c5 c6 c7 c8 c9 c10 c11 c12; obtain ⟨yql, hnq, HYA, HOcl, HFcl, HGcl, HBcl⟩ := hcut; have HNyql := Lib.hid hnq; clear hnq; obtain ⟨c0, c1, c2, c3, c4, c5, c6, c7, c8, c9, c10, c11, c12⟩ := EvBox.c (e := e) (v := .slice ax ex cx) (v' := .slice ay xt cy) HGcl.out
                  simp only [Nat.zero_add] at c0 c1 c2 c3 c4 c5 c6 c7 c8 c9 c10 c11 c12
                  cases hcn : e.canc
                  · rw [hcn] at c2
                    obtain ⟨Snf1, hs⟩ : ∃ q : ByteArray, q = ⟨#[83, 84, 65, 84, 85, 83, 58, 67, 79, 78, 70, 73, 82, 77, 69, 68]⟩ := ⟨_, rfl⟩
                    have HSS := Lib.hid hs; clear hs; go_wp2_with (at_builtin; refine wpList_append_own_at _ rfl (.tmp 121) (.tmp 122) 60 rfl (w.heap.size + 1) 9 i1 (.string ⟨#[]⟩) 1 16 Tryz.underlying60 hj hy0 hy2 hy3 rfl (by decide) _ _ _ rfl (HOcl.out.alloc _) ⟨wc.heap.size, 0, none⟩ 1 1 [.string Snf1] rfl rfl (by rw [HSS.out]; exact cell_one _ _ _) (by intro u hu; simp at hu; subst hu; rfl) (by unfold maxLen; have := HNyql.out; omega) (by have := HNyql.out; omega) (by have := HFcl.out.lt; simp; omega) ?_)
                    intro vnf1 Wnf1 hown hgrow _ hat; have HA := Lib.hid (app_keep HOcl.out (Nat.le_succ _) HBcl.out hgrow)
                    obtain ⟨ynf1, hy⟩ : ∃ q, q = yql ++ [str ([83, 84, 65, 84, 85, 83, 58, 67, 79, 78, 70, 73, 82, 77, 69, 68])] := ⟨_, rfl⟩
                    have HZZ := Lib.hid (show str ([83, 84, 65, 84, 85, 83, 58, 67, 79, 78, 70, 73, 82, 77, 69, 68]) = Snf1 from by rw [HSS.out] <;> rfl)
                    have HOnf1 := Lib.hid (show Wnf1.ownsRow (w.heap.size + 1) 9 1 vnf1 ynf1.length (ynf1.map Value.string) from by rw [hy, List.length_append, List.map_append, HZZ.out]; exact hown)
                    clear HSS HZZ; have HYnf1 := Lib.hid hy; have HNynf1 := Lib.hid (show ynf1.length ≤ 4000 + 11 from by rw [hy, List.length_append]; have := HNyql.out; simp only [List.length_cons, List.length_nil]; omega)
                    have HFnf1 := Lib.hid (HA.out.2 _ _ _ (by decide) HFcl.out)
                    have HGnf1 := Lib.hid (HA.out.2 _ _ _ (by decide) HGcl.out)
                    have HBnf1 := Lib.hid HA.out.1
                    clear hown hgrow hat hy HA HOcl HFcl HGcl HBcl; clear c0 c1 c2 c3 c4 c5 c6 c7 c8 c9 c10 c11 c12; obtain ⟨Snf2, hs⟩ : ∃ q : ByteArray, q = ⟨#[69, 78, 68, 58, 86, 69, 86, 69, 78, 84]⟩ := ⟨_, rfl⟩
                    have HSS := Lib.hid hs; clear hs; go_wp2_with (at_builtin; refine wpList_append_own_at _ rfl (.tmp 124) (.tmp 125) 60 rfl (w.heap.size + 1) 9 i1 (.string ⟨#[]⟩) 1 16 Tryz.underlying60 hj hy0 hy2 hy3 rfl (by decide) _ _ _ rfl (HOnf1.out.alloc _) ⟨Wnf1.heap.size, 0, none⟩ 1 1 [.string Snf2] rfl rfl (by rw [HSS.out]; exact cell_one _ _ _) (by intro u hu; simp at hu; subst hu; rfl) (by unfold maxLen; have := HNynf1.out; omega) (by have := HNynf1.out; omega) (by have := HFnf1.out.lt; simp; omega) ?_)
                    intro vnf2 Wnf2 hown hgrow _ hat; have HA := Lib.hid (app_keep HOnf1.out (Nat.le_succ _) HBnf1.out hgrow)
                    obtain ⟨ynf2, hy⟩ : ∃ q, q = ynf1 ++ [str ([69, 78, 68, 58, 86, 69, 86, 69, 78, 84])] := ⟨_, rfl⟩
                    have HZZ := Lib.hid (show str ([69, 78, 68, 58, 86, 69, 86, 69, 78, 84]) = Snf2 from by rw [HSS.out] <;> rfl)
                    have HOnf2 := Lib.hid (show Wnf2.ownsRow (w.heap.size + 1) 9 1 vnf2 ynf2.length (ynf2.map Value.string) from by rw [hy, List.length_append, List.map_append, HZZ.out]; exact hown)
                    clear HSS HZZ; have HYnf2 := Lib.hid hy; have HNynf2 := Lib.hid (show ynf2.length ≤ 4000 + 12 from by rw [hy, List.length_append]; have := HNynf1.out; simp only [List.length_cons, List.length_nil]; omega)
                    have HFnf2 := Lib.hid (HA.out.2 _ _ _ (by decide) HFnf1.out)
                    have HGnf2 := Lib.hid (HA.out.2 _ _ _ (by decide) HGnf1.out)
                    have HBnf2 := Lib.hid HA.out.1
                    clear hown hgrow hat hy HA HOnf1 HFnf1 HGnf1 HBnf1; go_wp2_with fail
                    go_roundw
                    have HFL := Lib.hid (show ynf2 = (headL n.data.toList v ++ (es.take (i + 1)).flatMap fun e => evLines e z.data.toList).map str from by rw [HYnf2.out, HYnf1.out, HYA.out, HY.out, HT.out]; unfold evLines evC; rw [List.flatMap_append, List.flatMap_cons, List.flatMap_nil, hcn]; simp only [List.map_append, List.map_cons, List.map_nil, List.append_assoc, List.append_nil, Bool.false_eq_true, if_false, List.cons_append, List.nil_append])
                    case rel => exact ⟨i + 1, ynf2, by go_num, by omega, HFL, HOnf2, HFnf2, HBnf2⟩
                    case measure => simp [intOf]; omega
                  · rw [hcn] at c2
                    obtain ⟨Snt1, hs⟩ : ∃ q : ByteArray, q = ⟨#[83, 84, 65, 84, 85, 83, 58, 67, 65, 78, 67, 69, 76, 76, 69, 68]⟩ := ⟨_, rfl⟩
                    have HSS := Lib.hid hs; clear hs; go_wp2_with (at_builtin; refine wpList_append_own_at _ rfl (.tmp 118) (.tmp 119) 60 rfl (w.heap.size + 1) 9 i1 (.string ⟨#[]⟩) 1 16 Tryz.underlying60 hj hy0 hy2 hy3 rfl (by decide) _ _ _ rfl (HOcl.out.alloc _) ⟨wc.heap.size, 0, none⟩ 1 1 [.string Snt1] rfl rfl (by rw [HSS.out]; exact cell_one _ _ _) (by intro u hu; simp at hu; subst hu; rfl) (by unfold maxLen; have := HNyql.out; omega) (by have := HNyql.out; omega) (by have := HFcl.out.lt; simp; omega) ?_)
                    intro vnt1 Wnt1 hown hgrow _ hat; have HA := Lib.hid (app_keep HOcl.out (Nat.le_succ _) HBcl.out hgrow)
                    obtain ⟨ynt1, hy⟩ : ∃ q, q = yql ++ [str ([83, 84, 65, 84, 85, 83, 58, 67, 65, 78, 67, 69, 76, 76, 69, 68])] := ⟨_, rfl⟩
                    have HZZ := Lib.hid (show str ([83, 84, 65, 84, 85, 83, 58, 67, 65, 78, 67, 69, 76, 76, 69, 68]) = Snt1 from by rw [HSS.out] <;> rfl)
                    have HOnt1 := Lib.hid (show Wnt1.ownsRow (w.heap.size + 1) 9 1 vnt1 ynt1.length (ynt1.map Value.string) from by rw [hy, List.length_append, List.map_append, HZZ.out]; exact hown)
                    clear HSS HZZ; have HYnt1 := Lib.hid hy; have HNynt1 := Lib.hid (show ynt1.length ≤ 4000 + 11 from by rw [hy, List.length_append]; have := HNyql.out; simp only [List.length_cons, List.length_nil]; omega)
                    have HFnt1 := Lib.hid (HA.out.2 _ _ _ (by decide) HFcl.out)
                    have HGnt1 := Lib.hid (HA.out.2 _ _ _ (by decide) HGcl.out)
                    have HBnt1 := Lib.hid HA.out.1
                    clear hown hgrow hat hy HA HOcl HFcl HGcl HBcl; clear c0 c1 c2 c3 c4 c5 c6 c7 c8 c9 c10 c11 c12; obtain ⟨Snt2, hs⟩ : ∃ q : ByteArray, q = ⟨#[69, 78, 68, 58, 86, 69, 86, 69, 78, 84]⟩ := ⟨_, rfl⟩
                    have HSS := Lib.hid hs; clear hs; go_wp2_with (at_builtin; refine wpList_append_own_at _ rfl (.tmp 124) (.tmp 125) 60 rfl (w.heap.size + 1) 9 i1 (.string ⟨#[]⟩) 1 16 Tryz.underlying60 hj hy0 hy2 hy3 rfl (by decide) _ _ _ rfl (HOnt1.out.alloc _) ⟨Wnt1.heap.size, 0, none⟩ 1 1 [.string Snt2] rfl rfl (by rw [HSS.out]; exact cell_one _ _ _) (by intro u hu; simp at hu; subst hu; rfl) (by unfold maxLen; have := HNynt1.out; omega) (by have := HNynt1.out; omega) (by have := HFnt1.out.lt; simp; omega) ?_)
                    intro vnt2 Wnt2 hown hgrow _ hat; have HA := Lib.hid (app_keep HOnt1.out (Nat.le_succ _) HBnt1.out hgrow)
                    obtain ⟨ynt2, hy⟩ : ∃ q, q = ynt1 ++ [str ([69, 78, 68, 58, 86, 69, 86, 69, 78, 84])] := ⟨_, rfl⟩
                    have HZZ := Lib.hid (show str ([69, 78, 68, 58, 86, 69, 86, 69, 78, 84]) = Snt2 from by rw [HSS.out] <;> rfl)
                    have HOnt2 := Lib.hid (show Wnt2.ownsRow (w.heap.size + 1) 9 1 vnt2 ynt2.length (ynt2.map Value.string) from by rw [hy, List.length_append, List.map_append, HZZ.out]; exact hown)
                    clear HSS HZZ; have HYnt2 := Lib.hid hy; have HNynt2 := Lib.hid (show ynt2.length ≤ 4000 + 12 from by rw [hy, List.length_append]; have := HNynt1.out; simp only [List.length_cons, List.length_nil]; omega)
                    have HFnt2 := Lib.hid (HA.out.2 _ _ _ (by decide) HFnt1.out)
                    have HGnt2 := Lib.hid (HA.out.2 _ _ _ (by decide) HGnt1.out)
                    have HBnt2 := Lib.hid HA.out.1
                    clear hown hgrow hat hy HA HOnt1 HFnt1 HGnt1 HBnt1; go_wp2_with fail
                    go_roundw
                    have HFL := Lib.hid (show ynt2 = (headL n.data.toList v ++ (es.take (i + 1)).flatMap fun e => evLines e z.data.toList).map str from by rw [HYnt2.out, HYnt1.out, HYA.out, HY.out, HT.out]; unfold evLines evC; rw [List.flatMap_append, List.flatMap_cons, List.flatMap_nil, hcn]; simp only [List.map_append, List.map_cons, List.map_nil, List.append_assoc, List.append_nil, if_true, List.cons_append, List.nil_append])
                    case rel => exact ⟨i + 1, ynt2, by go_num, by omega, HFL, HOnt2, HFnt2, HBnt2⟩
                    case measure => simp [intOf]; omega
        · have hlti : ¬ (i : Int) < m := by omega
          have him : i = m := by omega
          have HYL := Lib.hid (show y = (headL n.data.toList v ++ es.flatMap fun e => evLines e z.data.toList).map str from by rw [HY.out, him, HM.out, List.take_length])
          clear f0 f1 HY him; obtain ⟨SE, hs⟩ : ∃ q : ByteArray, q = ⟨#[69, 78, 68, 58, 86, 67, 65, 76, 69, 78, 68, 65, 82]⟩ := ⟨_, rfl⟩
          have HSS := Lib.hid hs; clear hs; go_wp2_with (at_builtin; refine wpList_append_own_at _ rfl (.tmp 127) (.tmp 128) 60 rfl (w.heap.size + 1) 9 i1 (.string ⟨#[]⟩) 1 16 Tryz.underlying60 hj hy0 hy2 hy3 rfl (by decide) _ _ _ rfl (HO.out.alloc _) ⟨wr.heap.size, 0, none⟩ 1 1 [.string SE] rfl rfl (by rw [HSS.out]; exact cell_one _ _ _) (by intro u hu; simp at hu; subst hu; rfl) (by unfold maxLen; have := HN.out; omega) (by have := HN.out; omega) (by simp; omega) ?_)
          intro vE WE hown hgrow _ hat; have HA := Lib.hid (app_keep HO.out (Nat.le_succ _) HB.out hgrow)
          have HZZ := Lib.hid (show str [69, 78, 68, 58, 86, 67, 65, 76, 69, 78, 68, 65, 82] = SE from by rw [HSS.out] <;> rfl)
          have HOE := Lib.hid (show WE.ownsRow w.heap.size 9 1 vE (feedL n.data.toList v es z.data.toList).length (((feedL n.data.toList v es z.data.toList).map str).map Value.string) from by unfold feedL; rw [List.map_append, List.map_append, ← HYL.out, List.length_append, ← List.length_map (f := str), ← HYL.out, show [[69, 78, 68, 58, 86, 67, 65, 76, 69, 78, 68, 65, 82]].map str = [SE] from by rw [List.map_cons, List.map_nil, HZZ.out]]; exact ownsRow_mono hown (Nat.le_succ _))
          clear hown hgrow hat HSS HZZ; go_wp2_with fail
          go_ret; exact ⟨_, rfl, HOE.out, HA.out.1⟩
    have hQQ := Lib.hid hQ; clear hQ; simp only [List.drop_succ_cons, List.drop_zero]
    go_wp2_with fail
    exact hQQ.out _ _ ⟨_, _, _, _, _, _, _, _, _, rfl, own_five (Nat.le_trans hlo0 HS.out.below.size) _ _ _ _ _, HS.out.below.alloc HS.out.below.size _⟩
end Go.Proofs.YtageielcdebjlaaGreatDoor
