/- timetablemore.Zone: its contract: a valid zone in new memory. -/
import Derived.Test.YtageielcdebjlaaGreatDoorPk20
import Derived.Test.YtageielcdebjlaaGreatDoorPk24
namespace Tt
def lastA : Option Int → List (Int × Int) → Option Int
  | p, [] => p
  | _, x :: r => lastA (some x.1) r
def lastO : Int → List (Int × Int) → Int
  | o, [] => o
  | _, x :: r => lastO x.2 r
theorem lastA_snoc : ∀ (sh : List (Int × Int)) (p : Option Int) (x : Int × Int), lastA p (sh ++ [x]) = some x.1
  | [], _, _ => rfl
  | _ :: r, _, x => lastA_snoc r _ x
theorem lastO_snoc : ∀ (sh : List (Int × Int)) (o : Int) (x : Int × Int), lastO o (sh ++ [x]) = x.2
  | [], _, _ => rfl
  | _ :: r, _, x => lastO_snoc r _ x
theorem shV_snoc : ∀ (sh : List (Int × Int)) (p : Option Int) (o : Int) (x : Int × Int), shV p o sh = 0 → shV (lastA p sh) (lastO o sh) [x] = 0 → shV p o (sh ++ [x]) = 0
  | [], _, _, _, _, h => h
  | y :: r, p, o, x, h1, h2 => by
    rw [List.cons_append, shV]
    rw [shV] at h1
    split at h1
    · cases h1
    · rename_i g1
      rw [if_neg g1]
      split at h1
      · cases h1
      · rename_i g2
        rw [if_neg g2]
        split at h1
        · cases h1
        · rename_i g3
          rw [if_neg g3]
          exact shV_snoc r _ _ x h1 h2
/-- Shifts so far: without fault, the last at an instant, with an offset. -/
structure ShP (v : Int) (sh : List (Int × Int)) (a now : Int) : Prop where
  ok : shV none v sh = 0
  la : ∀ q, lastA none sh = some q → q = a
  lo : lastO v sh = now
theorem ShP.start (v a : Int) : ShP v [] a v := ⟨rfl, (fun q hq => by cases hq), rfl⟩
theorem ShP.snoc {v a now a' now' : Int} {sh : List (Int × Int)} (h : ShP v sh a now) (h1 : a + 2880 ≤ a') (h2 : 0 ≤ a') (h3 : a' < 52596000) (n1 : -840 ≤ now') (n2 : now' ≤ 840) (n3 : now' ≠ now) (n4 : now' ≤ now + 180) (n5 : now - 180 ≤ now') : ShP v (sh ++ [(a', now')]) a' now' := by
  refine ⟨shV_snoc sh none v _ h.ok ?_, (fun q hq => by rw [lastA_snoc] at hq; cases hq; rfl), lastO_snoc _ _ _⟩
  rw [shV, if_neg, if_neg, if_neg]
  · rfl
  · rw [h.lo]; show ¬ (now' = now ∨ now + 180 < now' ∨ now' < now - 180); omega
  · cases hl : lastA none sh with
    | none => simp [lateA]
    | some q => have := h.la q hl; show ¬ decide (a' < q + 2880) = true; rw [decide_eq_true_iff]; omega
  · rw [(instB_iff a').2 ⟨h2, h3⟩, (nearB_iff now').2 ⟨n1, n2⟩]; decide
theorem zone_ok {v a now : Int} {sh : List (Int × Int)} (h : ShP v sh a now) (v0 : -840 ≤ v) (v1 : v ≤ 840) (hl : sh.length ≤ 3) : zoneV true v sh = 0 := by
  unfold zoneV
  rw [if_neg (by decide), if_neg (by rw [(nearB_iff v).2 ⟨v0, v1⟩]; decide), if_neg (by omega)]
  exact h.ok
end Tt
namespace Go.Proofs.YtageielcdebjlaaGreatDoor
open Go.RowKit

/-- What timetablemore.Zone leaves: a zone whose shifts lie in a row of its own. -/
def ZoneGV (b m : Nat) (lo : Nat) (w : World) (e : Ending) (w' : World) : Prop := ∃ (n : ByteArray) (v : Int) (pz : Option Addr) (cz : Nat) (sh : List (Int × Int)), e = .returned (.agg #[.string n, .int .i64 v, .slice pz sh.length cz]) ∧ Tt.zoneV (Tt.code n.data.toList) v sh = 0 ∧ sh.length ≤ m ∧ RowZ lo w' (.slice pz sh.length cz) sh ∧ Dice b w' ∧ But b w.heap.size w w'

set_option maxHeartbeats 16000000 in
set_option maxRecDepth 100000 in
theorem zone30v (b : Nat) (w : World) (hd : Dice b w) :
    Calls Tryz.prog 30 #[.pointer (some ⟨b, 0, none⟩)] w (ZoneGV b 3 w.heap.size w) := by
  have hblt := hd.lt; have hRb : w.heap.size ≠ b := by omega
  have HR0 := Lib.hid (Blk.new w #[.string ⟨#[]⟩, .int .i64 0, .slice none 0 0] 50)
  have HK0 := Lib.hid (but_alloc (But.refl b w.heap.size w) (Nat.le_refl _) (.cells #[.string ⟨#[]⟩, .int .i64 0, .slice none 0 0] 50))
  have HD0 := Lib.hid (dice_alloc hd (.cells #[.string ⟨#[]⟩, .int .i64 0, .slice none 0 0] 50))
  have hbB : b < (w.alloc (.cells #[.string ⟨#[]⟩, .int .i64 0, .slice none 0 0] 50)).heap.size := by simp; omega
  obtain ⟨wa, hwa⟩ : ∃ wa, wa = w.alloc (.cells #[.string ⟨#[]⟩, .int .i64 0, .slice none 0 0] 50) := ⟨_, rfl⟩
  rw [← hwa] at HR0 HK0 HD0 hbB
  go_enter Tryz.func30, Tryz.ntmps30
  go_upto_region 1 with (fail)
  rw [← hwa]; clear hwa; go_cut [3] (fun s3 wx => ∃ (S : Nat) (nm : ByteArray) (v1 : Int), s3 = .pointer (some ⟨S, 0, none⟩) ∧ Hid (Tt.code nm.data.toList = true ∧ -120 ≤ v1 ∧ v1 ≤ 120) ∧ Hid (w.heap.size < S) ∧ Hid (Blk S #[.string nm, .int .i64 v1, .slice none 0 0] 50 wx) ∧ Hid (Blk w.heap.size #[.string ⟨#[]⟩, .int .i64 0, .slice none 0 0] 50 wx) ∧ Hid (Dice b wx) ∧ Hid (But b w.heap.size w wx))
  case first =>
    refine wp_region_tail 11 (by kernel_rfl) (fun listed a x => ∃ (l0 l1 l2 l3 l4 l5 l6 l7 l8 l9 l10 : Bool) (t3 t8 t9 t10 t11 t12 t13 t14 t15 t16 t17 : Value), listed = #[l0, l1, l2, l3, l4, l5, l6, l7, l8, l9, l10, false] ∧ a = ⟨(.pointer (some ⟨b, 0, none⟩) :: undef :: .pointer (some ⟨w.heap.size, 0, none⟩) :: t3 :: undef :: undef :: undef :: undef :: t8 :: t9 :: t10 :: t11 :: t12 :: t13 :: t14 :: t15 :: t16 :: t17 :: undef :: undef :: undef :: undef :: undef :: undef :: undef :: undef :: undef :: undef :: undef :: undef :: undef :: undef :: undef :: undef :: undef :: undef :: undef :: undef :: undef :: undef :: undef :: undef :: undef :: undef :: undef :: undef :: undef :: undef :: undef :: undef :: undef :: undef :: undef :: undef :: undef :: undef :: undef :: undef :: undef :: undef :: undef :: undef :: undef :: undef :: undef :: []).toArray, []⟩ ∧ Hid (l0 = true → l3 = false → ∃ (g : Nat), t8 = .slice (some ⟨g, 0, none⟩) 3 3 ∧ wa.heap.size ≤ g ∧ Blk g #[.string ⟨#[99, 97, 109, 112, 117, 115]⟩, .string ⟨#[69, 97, 115, 116]⟩, .string ⟨#[122, 49]⟩] 9 x) ∧ Hid (l1 = true → t9 = .pointer (some ⟨b, 0, none⟩)) ∧ Hid (l2 = true → ∃ (n : Int), t10 = .int .i64 n ∧ 0 ≤ n ∧ n ≤ 2) ∧ Hid (l3 = true → l4 = false → ∃ (g : Nat) (k : Nat), t11 = .pointer (some ⟨g, k, none⟩) ∧ k < 3 ∧ wa.heap.size ≤ g ∧ Blk g #[.string ⟨#[99, 97, 109, 112, 117, 115]⟩, .string ⟨#[69, 97, 115, 116]⟩, .string ⟨#[122, 49]⟩] 9 x) ∧ Hid (l4 = true → ∃ (s : ByteArray), t12 = .string s ∧ Tt.code s.data.toList = true) ∧ Hid (l5 = true → t13 = .pointer (some ⟨b, 0, none⟩)) ∧ Hid (l6 = true → ∃ (n : Int), t14 = .int .i64 n ∧ 0 ≤ n ∧ n ≤ 4) ∧ Hid (l7 = true → ∃ (n : Int), t15 = .int .i64 n ∧ (-2) ≤ n ∧ n ≤ 2) ∧ Hid (l8 = true → ∃ (n : Int), t16 = .int .i64 n ∧ (-120) ≤ n ∧ n ≤ 120) ∧ Hid (l9 = true → ∃ (s : ByteArray) (n : Int), t17 = .agg #[.string s, .int .i64 n, .slice none 0 0] ∧ Tt.code s.data.toList = true ∧ -120 ≤ n ∧ n ≤ 120) ∧ Hid (l10 = true → ∃ (S : Nat), t3 = .pointer (some ⟨S, 0, none⟩) ∧ wa.heap.size ≤ S ∧ Blk S #[.string ⟨#[]⟩, .int .i64 0, .slice none 0 0] 50 x) ∧ Hid (Sofar b wa x)) (by decide) (by kernel_rfl) (by kernel_rfl) ?_ ?_ ?_ ?_
    · exact ⟨false, false, false, false, false, false, false, false, false, false, false, _, _, _, _, _, _, _, _, _, _, _, rfl, rfl, Lib.hid (fun h => by cases h), Lib.hid (fun h => by cases h), Lib.hid (fun h => by cases h), Lib.hid (fun h => by cases h), Lib.hid (fun h => by cases h), Lib.hid (fun h => by cases h), Lib.hid (fun h => by cases h), Lib.hid (fun h => by cases h), Lib.hid (fun h => by cases h), Lib.hid (fun h => by cases h), Lib.hid (fun h => by cases h), Lib.hid (Sofar.start HD0.out)⟩
    · intro listed a x hj; obtain ⟨l0, hj⟩ := hj
      obtain ⟨l1, hj⟩ := hj; obtain ⟨l2, hj⟩ := hj; obtain ⟨l3, hj⟩ := hj; obtain ⟨l4, hj⟩ := hj; obtain ⟨l5, hj⟩ := hj; obtain ⟨l6, hj⟩ := hj; obtain ⟨l7, hj⟩ := hj; obtain ⟨l8, hj⟩ := hj; obtain ⟨l9, hj⟩ := hj; obtain ⟨l10, hj⟩ := hj; obtain ⟨t3, hj⟩ := hj; obtain ⟨t8, hj⟩ := hj; obtain ⟨t9, hj⟩ := hj; obtain ⟨t10, hj⟩ := hj; obtain ⟨t11, hj⟩ := hj; obtain ⟨t12, hj⟩ := hj; obtain ⟨t13, hj⟩ := hj; obtain ⟨t14, hj⟩ := hj; obtain ⟨t15, hj⟩ := hj; obtain ⟨t16, hj⟩ := hj; obtain ⟨t17, hj⟩ := hj; obtain ⟨h1, -⟩ := hj; subst h1; exact ⟨rfl, fun k h1 h2 => by (have h2 : k < 12 := h2); obtain rfl : k = 11 := (by omega); rfl⟩
    · intro listed a x i hj hlt hu haf; obtain ⟨l0, hj⟩ := hj
      obtain ⟨l1, hj⟩ := hj; obtain ⟨l2, hj⟩ := hj; obtain ⟨l3, hj⟩ := hj; obtain ⟨l4, hj⟩ := hj; obtain ⟨l5, hj⟩ := hj; obtain ⟨l6, hj⟩ := hj; obtain ⟨l7, hj⟩ := hj; obtain ⟨l8, hj⟩ := hj; obtain ⟨l9, hj⟩ := hj; obtain ⟨l10, hj⟩ := hj; obtain ⟨t3, hj⟩ := hj; obtain ⟨t8, hj⟩ := hj; obtain ⟨t9, hj⟩ := hj; obtain ⟨t10, hj⟩ := hj; obtain ⟨t11, hj⟩ := hj; obtain ⟨t12, hj⟩ := hj; obtain ⟨t13, hj⟩ := hj; obtain ⟨t14, hj⟩ := hj; obtain ⟨t15, hj⟩ := hj; obtain ⟨t16, hj⟩ := hj; obtain ⟨t17, hj⟩ := hj; obtain ⟨hl_, hj⟩ := hj; obtain ⟨ha_, hj⟩ := hj; obtain ⟨H0, hj⟩ := hj; obtain ⟨H1, hj⟩ := hj; obtain ⟨H2, hj⟩ := hj; obtain ⟨H3, hj⟩ := hj; obtain ⟨H4, hj⟩ := hj; obtain ⟨H5, hj⟩ := hj; obtain ⟨H6, hj⟩ := hj; obtain ⟨H7, hj⟩ := hj; obtain ⟨H8, hj⟩ := hj; obtain ⟨H9, hj⟩ := hj; obtain ⟨H10, hj⟩ := hj; have HS := hj; clear hj; subst hl_; subst ha_; rcases (show ∀ i : Nat, i < 11 → (i = 0 ∨ i = 1 ∨ i = 2 ∨ i = 3 ∨ i = 4 ∨ i = 5 ∨ i = 6 ∨ i = 7 ∨ i = 8 ∨ i = 9 ∨ i = 10) by decide) i hlt with rfl | rfl | rfl | rfl | rfl | rfl | rfl | rfl | rfl | rfl | rfl
      · have haf := haf _ rfl; clear haf
        have hu : l0 = false := hu
        refine wpOp_of_list_any rfl fun QQ hQ => ?_
        have hQQ := Lib.hid hQ; clear hQ; simp only [List.getElem_toArray, List.getElem_cons_zero]
        go_wp2_with fail
        exact hQQ.out _ _ ⟨true, l1, l2, l3, l4, l5, l6, l7, l8, l9, l10, _, _, _, _, _, _, _, _, _, _, _, rfl, rfl, Lib.hid (fun _ _ => ⟨_, rfl, HS.out.but.size, Blk.new x _ _⟩), H1, H2, Lib.hid (fun h h2 => (by obtain ⟨g, k, e, c0, c1, c2⟩ := H3.out h h2; exact ⟨g, k, e, c0, c1, ((Kept.alloc _ x _) _ _ _ c1 c2)⟩)), H4, H5, H6, H7, H8, H9, Lib.hid (fun h => (by obtain ⟨S, e, c0, c1⟩ := H10.out h; exact ⟨S, e, c0, ((Kept.alloc _ x _) _ _ _ c0 c1)⟩)), Lib.hid (HS.out.alloc _)⟩
      · have haf := haf _ rfl; clear haf
        have hu : l1 = false := hu
        refine wpOp_of_list_any rfl fun QQ hQ => ?_
        have hQQ := Lib.hid hQ; clear hQ; simp only [List.getElem_toArray, List.getElem_cons_zero, List.getElem_cons_succ]
        go_wp2_with fail
        exact hQQ.out _ _ ⟨l0, true, l2, l3, l4, l5, l6, l7, l8, l9, l10, _, _, _, _, _, _, _, _, _, _, _, rfl, rfl, H0, Lib.hid (fun _ => rfl), H2, H3, H4, H5, H6, H7, H8, H9, H10, HS⟩
      · have haf := haf _ rfl; have q1 : l1 = true := haf ⟨1, Go.Ground.data⟩ (by simp) rfl
        clear haf; have hu : l2 = false := hu
        have e1 := (H1.out q1)
        subst e1; clear H1; refine wpOp_of_list_any rfl fun QQ hQ => ?_
        have hQQ := Lib.hid hQ; clear hQ; simp only [List.getElem_toArray, List.getElem_cons_zero, List.getElem_cons_succ]
        go_wp2_with fail
        refine (next_any b 3 _ HS.out.dice (by omega) (by omega)).mono ?_
        rintro e x1 ⟨v, rfl, h0, h1, -, hd1, ho1⟩; have h1 := h1 (by omega)
        have hk := Kept.only ho1 hbB; have HS1 := Lib.hid (HS.out.only hd1 ho1)
        clear ho1 hd1; go_wp2_with fail
        exact hQQ.out _ _ ⟨l0, l1, true, l3, l4, l5, l6, l7, l8, l9, l10, _, _, _, _, _, _, _, _, _, _, _, rfl, rfl, Lib.hid (fun h h2 => (by obtain ⟨g, e, c0, c1⟩ := H0.out h h2; exact ⟨g, e, c0, (hk _ _ _ c0 c1)⟩)), Lib.hid (fun _ => rfl), Lib.hid (fun _ => ⟨_, rfl, by omega, by omega⟩), Lib.hid (fun h h2 => (by obtain ⟨g, k, e, c0, c1, c2⟩ := H3.out h h2; exact ⟨g, k, e, c0, c1, (hk _ _ _ c1 c2)⟩)), H4, H5, H6, H7, H8, H9, Lib.hid (fun h => (by obtain ⟨S, e, c0, c1⟩ := H10.out h; exact ⟨S, e, c0, (hk _ _ _ c0 c1)⟩)), HS1⟩
      · have haf := haf _ rfl; have q0 : l0 = true := haf ⟨0, Go.Ground.data⟩ (by simp) rfl
        have q2 : l2 = true := haf ⟨2, Go.Ground.data⟩ (by simp) rfl
        clear haf; have hu : l3 = false := hu
        obtain ⟨g0, e0, c0_0, c0_1⟩ := (H0.out q0 hu)
        subst e0; clear H0; obtain ⟨n2, e2, c2_0, c2_1⟩ := (H2.out q2)
        subst e2; clear H2; refine wpOp_of_list_any rfl fun QQ hQ => ?_
        have hQQ := Lib.hid hQ; clear hQ; simp only [List.getElem_toArray, List.getElem_cons_zero, List.getElem_cons_succ]
        go_wp2_with fail
        exact hQQ.out _ _ ⟨l0, l1, l2, true, l4, l5, l6, l7, l8, l9, l10, _, _, _, _, _, _, _, _, _, _, _, rfl, rfl, Lib.hid (fun _ h => by cases h), H1, Lib.hid (fun _ => ⟨n2, rfl, c2_0, c2_1⟩), Lib.hid (fun _ _ => ⟨_, _, rfl, by omega, by omega, by assumption⟩), H4, H5, H6, H7, H8, H9, H10, HS⟩
      · have haf := haf _ rfl; have q3 : l3 = true := haf ⟨3, Go.Ground.data⟩ (by simp) rfl
        clear haf; have hu : l4 = false := hu
        obtain ⟨g3, k3, e3, c3_0, c3_1, c3_2⟩ := (H3.out q3 hu)
        subst e3; clear H3; obtain ⟨v, hv, hP⟩ : ∃ v, x.cell? ⟨g3, k3, none⟩ = some v ∧ (∃ (s : ByteArray), v = .string s ∧ Tt.code s.data.toList = true) := by
          rcases (show k3 = 0 ∨ k3 = 1 ∨ k3 = 2 by omega) with rfl | rfl | rfl
          · exact ⟨_, c3_2.cell 0, _, rfl, by first | omega | decide⟩
          · exact ⟨_, c3_2.cell 1, _, rfl, by first | omega | decide⟩
          · exact ⟨_, c3_2.cell 2, _, rfl, by first | omega | decide⟩
        obtain ⟨y0, rfl, d0⟩ := hP; refine wpOp_of_list_any rfl fun QQ hQ => ?_
        have hQQ := Lib.hid hQ; clear hQ; simp only [List.getElem_toArray, List.getElem_cons_zero, List.getElem_cons_succ]
        go_wp2_with fail
        exact hQQ.out _ _ ⟨l0, l1, l2, l3, true, l5, l6, l7, l8, l9, l10, _, _, _, _, _, _, _, _, _, _, _, rfl, rfl, H0, H1, H2, Lib.hid (fun _ h => by cases h), Lib.hid (fun _ => ⟨_, rfl, by omega⟩), H5, H6, H7, H8, H9, H10, HS⟩
      · have haf := haf _ rfl; clear haf
        have hu : l5 = false := hu
        refine wpOp_of_list_any rfl fun QQ hQ => ?_
        have hQQ := Lib.hid hQ; clear hQ; simp only [List.getElem_toArray, List.getElem_cons_zero, List.getElem_cons_succ]
        go_wp2_with fail
        exact hQQ.out _ _ ⟨l0, l1, l2, l3, l4, true, l6, l7, l8, l9, l10, _, _, _, _, _, _, _, _, _, _, _, rfl, rfl, H0, H1, H2, H3, H4, Lib.hid (fun _ => rfl), H6, H7, H8, H9, H10, HS⟩
      · have haf := haf _ rfl; have q5 : l5 = true := haf ⟨5, Go.Ground.data⟩ (by simp) rfl
        clear haf; have hu : l6 = false := hu
        have e5 := (H5.out q5)
        subst e5; clear H5; refine wpOp_of_list_any rfl fun QQ hQ => ?_
        have hQQ := Lib.hid hQ; clear hQ; simp only [List.getElem_toArray, List.getElem_cons_zero, List.getElem_cons_succ]
        go_wp2_with fail
        refine (next_any b 5 _ HS.out.dice (by omega) (by omega)).mono ?_
        rintro e x1 ⟨v, rfl, h0, h1, -, hd1, ho1⟩; have h1 := h1 (by omega)
        have hk := Kept.only ho1 hbB; have HS1 := Lib.hid (HS.out.only hd1 ho1)
        clear ho1 hd1; go_wp2_with fail
        exact hQQ.out _ _ ⟨l0, l1, l2, l3, l4, l5, true, l7, l8, l9, l10, _, _, _, _, _, _, _, _, _, _, _, rfl, rfl, Lib.hid (fun h h2 => (by obtain ⟨g, e, c0, c1⟩ := H0.out h h2; exact ⟨g, e, c0, (hk _ _ _ c0 c1)⟩)), H1, H2, Lib.hid (fun h h2 => (by obtain ⟨g, k, e, c0, c1, c2⟩ := H3.out h h2; exact ⟨g, k, e, c0, c1, (hk _ _ _ c1 c2)⟩)), H4, Lib.hid (fun _ => rfl), Lib.hid (fun _ => ⟨_, rfl, by omega, by omega⟩), H7, H8, H9, Lib.hid (fun h => (by obtain ⟨S, e, c0, c1⟩ := H10.out h; exact ⟨S, e, c0, (hk _ _ _ c0 c1)⟩)), HS1⟩
      · have haf := haf _ rfl; have q6 : l6 = true := haf ⟨6, Go.Ground.data⟩ (by simp) rfl
        clear haf; have hu : l7 = false := hu
        obtain ⟨n6, e6, c6_0, c6_1⟩ := (H6.out q6)
        subst e6; clear H6; refine wpOp_of_list_any rfl fun QQ hQ => ?_
        have hQQ := Lib.hid hQ; clear hQ; simp only [List.getElem_toArray, List.getElem_cons_zero, List.getElem_cons_succ]
        go_wp2_with fail
        exact hQQ.out _ _ ⟨l0, l1, l2, l3, l4, l5, l6, true, l8, l9, l10, _, _, _, _, _, _, _, _, _, _, _, rfl, rfl, H0, H1, H2, H3, H4, H5, Lib.hid (fun _ => ⟨n6, rfl, c6_0, c6_1⟩), Lib.hid (fun _ => ⟨_, rfl, by omega, by omega⟩), H8, H9, H10, HS⟩
      · have haf := haf _ rfl; have q7 : l7 = true := haf ⟨7, Go.Ground.data⟩ (by simp) rfl
        clear haf; have hu : l8 = false := hu
        obtain ⟨n7, e7, c7_0, c7_1⟩ := (H7.out q7)
        subst e7; clear H7; refine wpOp_of_list_any rfl fun QQ hQ => ?_
        have hQQ := Lib.hid hQ; clear hQ; simp only [List.getElem_toArray, List.getElem_cons_zero, List.getElem_cons_succ]
        go_wp2_with fail
        exact hQQ.out _ _ ⟨l0, l1, l2, l3, l4, l5, l6, l7, true, l9, l10, _, _, _, _, _, _, _, _, _, _, _, rfl, rfl, H0, H1, H2, H3, H4, H5, H6, Lib.hid (fun _ => ⟨n7, rfl, c7_0, c7_1⟩), Lib.hid (fun _ => ⟨_, rfl, by omega, by omega⟩), H9, H10, HS⟩
      · have haf := haf _ rfl; have q4 : l4 = true := haf ⟨4, Go.Ground.data⟩ (by simp) rfl
        have q8 : l8 = true := haf ⟨8, Go.Ground.data⟩ (by simp) rfl
        clear haf; have hu : l9 = false := hu
        obtain ⟨s4, e4, c4_0⟩ := (H4.out q4)
        subst e4; clear H4; obtain ⟨n8, e8, c8_0, c8_1⟩ := (H8.out q8)
        subst e8; clear H8; refine wpOp_of_list_any rfl fun QQ hQ => ?_
        have hQQ := Lib.hid hQ; clear hQ; simp only [List.getElem_toArray, List.getElem_cons_zero, List.getElem_cons_succ]
        go_wp2_with fail
        exact hQQ.out _ _ ⟨l0, l1, l2, l3, l4, l5, l6, l7, l8, true, l10, _, _, _, _, _, _, _, _, _, _, _, rfl, rfl, H0, H1, H2, H3, Lib.hid (fun _ => ⟨s4, rfl, c4_0⟩), H5, H6, H7, Lib.hid (fun _ => ⟨n8, rfl, c8_0, c8_1⟩), Lib.hid (fun _ => ⟨_, _, rfl, by omega, by omega, by omega⟩), H10, HS⟩
      · have haf := haf _ rfl; clear haf
        have hu : l10 = false := hu
        refine wpOp_of_list_any rfl fun QQ hQ => ?_
        have hQQ := Lib.hid hQ; clear hQ; simp only [List.getElem_toArray, List.getElem_cons_zero, List.getElem_cons_succ]
        go_wp2_with fail
        exact hQQ.out _ _ ⟨l0, l1, l2, l3, l4, l5, l6, l7, l8, l9, true, _, _, _, _, _, _, _, _, _, _, _, rfl, rfl, Lib.hid (fun h h2 => (by obtain ⟨g, e, c0, c1⟩ := H0.out h h2; exact ⟨g, e, c0, ((Kept.alloc _ x _) _ _ _ c0 c1)⟩)), H1, H2, Lib.hid (fun h h2 => (by obtain ⟨g, k, e, c0, c1, c2⟩ := H3.out h h2; exact ⟨g, k, e, c0, c1, ((Kept.alloc _ x _) _ _ _ c1 c2)⟩)), H4, H5, H6, H7, H8, H9, Lib.hid (fun _ => ⟨_, rfl, HS.out.but.size, Blk.new x _ _⟩), Lib.hid (HS.out.alloc _)⟩
    · intro listed a x hj hall; obtain ⟨l0, hj⟩ := hj
      obtain ⟨l1, hj⟩ := hj; obtain ⟨l2, hj⟩ := hj; obtain ⟨l3, hj⟩ := hj; obtain ⟨l4, hj⟩ := hj; obtain ⟨l5, hj⟩ := hj; obtain ⟨l6, hj⟩ := hj; obtain ⟨l7, hj⟩ := hj; obtain ⟨l8, hj⟩ := hj; obtain ⟨l9, hj⟩ := hj; obtain ⟨l10, hj⟩ := hj; obtain ⟨t3, hj⟩ := hj; obtain ⟨t8, hj⟩ := hj; obtain ⟨t9, hj⟩ := hj; obtain ⟨t10, hj⟩ := hj; obtain ⟨t11, hj⟩ := hj; obtain ⟨t12, hj⟩ := hj; obtain ⟨t13, hj⟩ := hj; obtain ⟨t14, hj⟩ := hj; obtain ⟨t15, hj⟩ := hj; obtain ⟨t16, hj⟩ := hj; obtain ⟨t17, hj⟩ := hj; obtain ⟨hl_, hj⟩ := hj; obtain ⟨ha_, hj⟩ := hj; obtain ⟨H0, hj⟩ := hj; obtain ⟨H1, hj⟩ := hj; obtain ⟨H2, hj⟩ := hj; obtain ⟨H3, hj⟩ := hj; obtain ⟨H4, hj⟩ := hj; obtain ⟨H5, hj⟩ := hj; obtain ⟨H6, hj⟩ := hj; obtain ⟨H7, hj⟩ := hj; obtain ⟨H8, hj⟩ := hj; obtain ⟨H9, hj⟩ := hj; obtain ⟨H10, hj⟩ := hj; have HS := hj; clear hj; subst hl_; subst ha_; have q10 : l10 = true := hall 10 (by omega)
      have q9 : l9 = true := hall 9 (by omega)
      clear hall; obtain ⟨S10, e10, c10_0, c10_1⟩ := (H10.out q10)
      subst e10; obtain ⟨s9, n9, e9, c9_0, c9_1, c9_2⟩ := (H9.out q9)
      subst e9; have f0 : x.cell? ⟨S10, 0, none⟩ = some (.string ⟨#[]⟩) := c10_1.cell 0
      have f1 : x.cell? ⟨S10, 1, none⟩ = some (.int .i64 0) := c10_1.cell 1
      have f2 : x.cell? ⟨S10, 2, none⟩ = some (.slice none 0 0) := c10_1.cell 2
      have z0 := c10_1.frozen 0; have z1 := c10_1.frozen 1; have z2 := c10_1.frozen 2; refine tail_any (fun a x => ∃ (t3 t8 t9 t10 t11 t12 t13 t14 t15 t16 t17 : Value), a = ⟨(.pointer (some ⟨b, 0, none⟩) :: undef :: .pointer (some ⟨w.heap.size, 0, none⟩) :: t3 :: undef :: undef :: undef :: undef :: t8 :: t9 :: t10 :: t11 :: t12 :: t13 :: t14 :: t15 :: t16 :: t17 :: undef :: undef :: undef :: undef :: undef :: undef :: undef :: undef :: undef :: undef :: undef :: undef :: undef :: undef :: undef :: undef :: undef :: undef :: undef :: undef :: undef :: undef :: undef :: undef :: undef :: undef :: undef :: undef :: undef :: undef :: undef :: undef :: undef :: undef :: undef :: undef :: undef :: undef :: undef :: undef :: undef :: undef :: undef :: undef :: undef :: undef :: undef :: []).toArray, []⟩ ∧ ∃ (S : Nat) (nm : ByteArray) (v1 : Int), t3 = .pointer (some ⟨S, 0, none⟩) ∧ (Tt.code nm.data.toList = true ∧ -120 ≤ v1 ∧ v1 ≤ 120) ∧ wa.heap.size ≤ S ∧ Blk S #[.string nm, .int .i64 v1, .slice none 0 0] 50 x ∧ Sofar b wa x) ?_ fun QQ hQ => ?_
      · intro a x hpost; obtain ⟨t3, hpost⟩ := hpost
        obtain ⟨t8, hpost⟩ := hpost; obtain ⟨t9, hpost⟩ := hpost; obtain ⟨t10, hpost⟩ := hpost; obtain ⟨t11, hpost⟩ := hpost; obtain ⟨t12, hpost⟩ := hpost; obtain ⟨t13, hpost⟩ := hpost; obtain ⟨t14, hpost⟩ := hpost; obtain ⟨t15, hpost⟩ := hpost; obtain ⟨t16, hpost⟩ := hpost; obtain ⟨t17, hpost⟩ := hpost; obtain ⟨ha_, hpost⟩ := hpost; subst ha_; obtain ⟨S, nm, v1, rfl, p1, p2, p5, p6⟩ := hpost; go_wp2_with fail
        go_meet
        exact ⟨_, _, _, rfl, Lib.hid p1, Lib.hid (by have := HR0.out.lt; omega), Lib.hid p5, Lib.hid (p6.blk HR0.out hRb), Lib.hid p6.dice, Lib.hid (but_then HK0.out p6.but HK0.out.size)⟩
      have hQQ := Lib.hid hQ; clear hQ; simp only [List.drop_succ_cons, List.drop_zero]
      go_wp2_with fail
      exact hQQ.out _ _ ⟨_, _, _, _, _, _, _, _, _, _, _, rfl, _, _, _, rfl, ⟨c9_0, c9_1, c9_2⟩, c10_0, ((c10_1.set 0 _).set 1 _).set 2 _, ((HS.out.set c10_0 (by omega) 0 _).set c10_0 (by omega) 1 _).set c10_0 (by omega) 2 _⟩
  case rest =>
    clear HR0 HK0 HD0 hbB; obtain ⟨S, nm, v1, rfl, HN, hRS, HB, HR, HD0, HK⟩ := hcut; obtain ⟨wx, hwx⟩ : ∃ wx, wx = wc := ⟨_, rfl⟩
    subst hwx; obtain ⟨i0, hi, hz0, hz1, hz2⟩ := info_parts infoSh
    have hSb : S ≠ b := by have := hRS.out; omega
    have hbS : b < S := by have := hRS.out; omega
    have hRS2 : w.heap.size ≠ S := by have := hRS.out; omega
    have hRS3 : w.heap.size ≤ S := by have := hRS.out; omega
    have hbB : b < wx.heap.size := HD0.out.lt
    go_wp2_with fail
    refine wp_region_tail 7 (by kernel_rfl) (fun listed a x => ∃ (l0 l1 l2 l3 l4 l5 l6 : Bool) (t4 t18 t19 t20 t21 t22 t23 : Value), listed = #[l0, l1, l2, l3, l4, l5, l6, false] ∧ a = ⟨(.pointer (some ⟨b, 0, none⟩) :: undef :: .pointer (some ⟨w.heap.size, 0, none⟩) :: .pointer (some ⟨S, 0, none⟩) :: t4 :: undef :: undef :: undef :: u8 :: u9 :: u10 :: u11 :: u12 :: u13 :: u14 :: u15 :: u16 :: u17 :: t18 :: t19 :: t20 :: t21 :: t22 :: t23 :: u24 :: u25 :: u26 :: u27 :: u28 :: u29 :: u30 :: u31 :: u32 :: u33 :: u34 :: u35 :: u36 :: u37 :: u38 :: u39 :: u40 :: u41 :: u42 :: u43 :: u44 :: u45 :: u46 :: u47 :: u48 :: u49 :: u50 :: u51 :: u52 :: u53 :: u54 :: u55 :: u56 :: u57 :: u58 :: u59 :: u60 :: u61 :: u62 :: u63 :: u64 :: []).toArray, []⟩ ∧ Hid (l0 = true → t18 = .pointer (some ⟨b, 0, none⟩)) ∧ Hid (l1 = true → ∃ (n : Int), t19 = .int .i64 n ∧ 0 ≤ n ∧ n ≤ 2) ∧ Hid (l2 = true → ∃ (n : Int), t20 = .int .i64 n ∧ 0 ≤ n ∧ n ≤ 2880) ∧ Hid (l3 = true → ∃ (n : Int), t21 = .int .i64 n ∧ 0 ≤ n ∧ n ≤ 864000) ∧ Hid (l4 = true → t22 = .pointer (some ⟨S, 1, none⟩)) ∧ Hid (l5 = true → t23 = .int .i64 v1) ∧ Hid (l6 = true → ∃ (n : Int), t4 = .int .i64 n ∧ 0 ≤ n ∧ n ≤ 864000) ∧ Hid (Sofar b wx x)) (by decide) (by kernel_rfl) (by kernel_rfl) ?_ ?_ ?_ ?_
    · exact ⟨false, false, false, false, false, false, false, _, _, _, _, _, _, _, rfl, rfl, Lib.hid (fun h => by cases h), Lib.hid (fun h => by cases h), Lib.hid (fun h => by cases h), Lib.hid (fun h => by cases h), Lib.hid (fun h => by cases h), Lib.hid (fun h => by cases h), Lib.hid (fun h => by cases h), Lib.hid (Sofar.start HD0.out)⟩
    · intro listed a x hj; obtain ⟨l0, hj⟩ := hj
      obtain ⟨l1, hj⟩ := hj; obtain ⟨l2, hj⟩ := hj; obtain ⟨l3, hj⟩ := hj; obtain ⟨l4, hj⟩ := hj; obtain ⟨l5, hj⟩ := hj; obtain ⟨l6, hj⟩ := hj; obtain ⟨t4, hj⟩ := hj; obtain ⟨t18, hj⟩ := hj; obtain ⟨t19, hj⟩ := hj; obtain ⟨t20, hj⟩ := hj; obtain ⟨t21, hj⟩ := hj; obtain ⟨t22, hj⟩ := hj; obtain ⟨t23, hj⟩ := hj; obtain ⟨h1, -⟩ := hj; subst h1; exact ⟨rfl, fun k h1 h2 => by (have h2 : k < 8 := h2); obtain rfl : k = 7 := (by omega); rfl⟩
    · intro listed a x i hj hlt hu haf; obtain ⟨l0, hj⟩ := hj
      obtain ⟨l1, hj⟩ := hj; obtain ⟨l2, hj⟩ := hj; obtain ⟨l3, hj⟩ := hj; obtain ⟨l4, hj⟩ := hj; obtain ⟨l5, hj⟩ := hj; obtain ⟨l6, hj⟩ := hj; obtain ⟨t4, hj⟩ := hj; obtain ⟨t18, hj⟩ := hj; obtain ⟨t19, hj⟩ := hj; obtain ⟨t20, hj⟩ := hj; obtain ⟨t21, hj⟩ := hj; obtain ⟨t22, hj⟩ := hj; obtain ⟨t23, hj⟩ := hj; obtain ⟨hl_, hj⟩ := hj; obtain ⟨ha_, hj⟩ := hj; obtain ⟨H0, hj⟩ := hj; obtain ⟨H1, hj⟩ := hj; obtain ⟨H2, hj⟩ := hj; obtain ⟨H3, hj⟩ := hj; obtain ⟨H4, hj⟩ := hj; obtain ⟨H5, hj⟩ := hj; obtain ⟨H6, hj⟩ := hj; have HS := hj; clear hj; subst hl_; subst ha_; rcases (show ∀ i : Nat, i < 7 → (i = 0 ∨ i = 1 ∨ i = 2 ∨ i = 3 ∨ i = 4 ∨ i = 5 ∨ i = 6) by decide) i hlt with rfl | rfl | rfl | rfl | rfl | rfl | rfl
      · have haf := haf _ rfl; clear haf
        have hu : l0 = false := hu
        refine wpOp_of_list_any rfl fun QQ hQ => ?_
        have hQQ := Lib.hid hQ; clear hQ; simp only [List.getElem_toArray, List.getElem_cons_zero]
        go_wp2_with fail
        exact hQQ.out _ _ ⟨true, l1, l2, l3, l4, l5, l6, _, _, _, _, _, _, _, rfl, rfl, Lib.hid (fun _ => rfl), H1, H2, H3, H4, H5, H6, HS⟩
      · have haf := haf _ rfl; have q0 : l0 = true := haf ⟨0, Go.Ground.data⟩ (by simp) rfl
        clear haf; have hu : l1 = false := hu
        have e0 := (H0.out q0)
        subst e0; clear H0; refine wpOp_of_list_any rfl fun QQ hQ => ?_
        have hQQ := Lib.hid hQ; clear hQ; simp only [List.getElem_toArray, List.getElem_cons_zero, List.getElem_cons_succ]
        go_wp2_with fail
        refine (next_any b 3 _ HS.out.dice (by omega) (by omega)).mono ?_
        rintro e x1 ⟨v, rfl, h0, h1, -, hd1, ho1⟩; have h1 := h1 (by omega)
        have hk := Kept.only ho1 hbB; have HS1 := Lib.hid (HS.out.only hd1 ho1)
        clear ho1 hd1; go_wp2_with fail
        exact hQQ.out _ _ ⟨l0, true, l2, l3, l4, l5, l6, _, _, _, _, _, _, _, rfl, rfl, Lib.hid (fun _ => rfl), Lib.hid (fun _ => ⟨_, rfl, by omega, by omega⟩), H2, H3, H4, H5, H6, HS1⟩
      · have haf := haf _ rfl; have q1 : l1 = true := haf ⟨1, Go.Ground.data⟩ (by simp) rfl
        clear haf; have hu : l2 = false := hu
        obtain ⟨n1, e1, c1_0, c1_1⟩ := (H1.out q1)
        subst e1; clear H1; refine wpOp_of_list_any rfl fun QQ hQ => ?_
        have hQQ := Lib.hid hQ; clear hQ; simp only [List.getElem_toArray, List.getElem_cons_zero, List.getElem_cons_succ]
        go_wp2_with fail
        exact hQQ.out _ _ ⟨l0, l1, true, l3, l4, l5, l6, _, _, _, _, _, _, _, rfl, rfl, H0, Lib.hid (fun _ => ⟨n1, rfl, c1_0, c1_1⟩), Lib.hid (fun _ => ⟨_, rfl, by omega, by omega⟩), H3, H4, H5, H6, HS⟩
      · have haf := haf _ rfl; have q2 : l2 = true := haf ⟨2, Go.Ground.data⟩ (by simp) rfl
        clear haf; have hu : l3 = false := hu
        obtain ⟨n2, e2, c2_0, c2_1⟩ := (H2.out q2)
        subst e2; clear H2; refine wpOp_of_list_any rfl fun QQ hQ => ?_
        have hQQ := Lib.hid hQ; clear hQ; simp only [List.getElem_toArray, List.getElem_cons_zero, List.getElem_cons_succ]
        go_wp2_with fail
        exact hQQ.out _ _ ⟨l0, l1, l2, true, l4, l5, l6, _, _, _, _, _, _, _, rfl, rfl, H0, H1, Lib.hid (fun _ => ⟨n2, rfl, c2_0, c2_1⟩), Lib.hid (fun _ => ⟨_, rfl, by omega, by omega⟩), H4, H5, H6, HS⟩
      · have haf := haf _ rfl; clear haf
        have hu : l4 = false := hu
        refine wpOp_of_list_any rfl fun QQ hQ => ?_
        have hQQ := Lib.hid hQ; clear hQ; simp only [List.getElem_toArray, List.getElem_cons_zero, List.getElem_cons_succ]
        go_wp2_with fail
        exact hQQ.out _ _ ⟨l0, l1, l2, l3, true, l5, l6, _, _, _, _, _, _, _, rfl, rfl, H0, H1, H2, H3, Lib.hid (fun _ => rfl), H5, H6, HS⟩
      · have haf := haf _ rfl; have q4 : l4 = true := haf ⟨4, Go.Ground.data⟩ (by simp) rfl
        clear haf; have hu : l5 = false := hu
        have e4 := (H4.out q4)
        subst e4; clear H4; have hc : x.cell? ⟨S, 1, none⟩ = some (.int .i64 v1) := (HS.out.blk HB.out hSb).cell 1
        refine wpOp_of_list_any rfl fun QQ hQ => ?_
        have hQQ := Lib.hid hQ; clear hQ; simp only [List.getElem_toArray, List.getElem_cons_zero, List.getElem_cons_succ]
        go_wp2_with fail
        exact hQQ.out _ _ ⟨l0, l1, l2, l3, l4, true, l6, _, _, _, _, _, _, _, rfl, rfl, H0, H1, H2, H3, Lib.hid (fun _ => rfl), Lib.hid (fun _ => rfl), H6, HS⟩
      · have haf := haf _ rfl; have q3 : l3 = true := haf ⟨3, Go.Ground.data⟩ (by simp) rfl
        clear haf; have hu : l6 = false := hu
        obtain ⟨n3, e3, c3_0, c3_1⟩ := (H3.out q3)
        subst e3; clear H3; refine wpOp_of_list_any rfl fun QQ hQ => ?_
        have hQQ := Lib.hid hQ; clear hQ; simp only [List.getElem_toArray, List.getElem_cons_zero, List.getElem_cons_succ]
        go_wp2_with fail
        exact hQQ.out _ _ ⟨l0, l1, l2, l3, l4, l5, true, _, _, _, _, _, _, _, rfl, rfl, H0, H1, H2, Lib.hid (fun _ => ⟨n3, rfl, c3_0, c3_1⟩), H4, H5, Lib.hid (fun _ => ⟨_, rfl, by omega, by omega⟩), HS⟩
    · intro listed a x hj hall; obtain ⟨l0, hj⟩ := hj
      obtain ⟨l1, hj⟩ := hj; obtain ⟨l2, hj⟩ := hj; obtain ⟨l3, hj⟩ := hj; obtain ⟨l4, hj⟩ := hj; obtain ⟨l5, hj⟩ := hj; obtain ⟨l6, hj⟩ := hj; obtain ⟨t4, hj⟩ := hj; obtain ⟨t18, hj⟩ := hj; obtain ⟨t19, hj⟩ := hj; obtain ⟨t20, hj⟩ := hj; obtain ⟨t21, hj⟩ := hj; obtain ⟨t22, hj⟩ := hj; obtain ⟨t23, hj⟩ := hj; obtain ⟨hl_, hj⟩ := hj; obtain ⟨ha_, hj⟩ := hj; obtain ⟨H0, hj⟩ := hj; obtain ⟨H1, hj⟩ := hj; obtain ⟨H2, hj⟩ := hj; obtain ⟨H3, hj⟩ := hj; obtain ⟨H4, hj⟩ := hj; obtain ⟨H5, hj⟩ := hj; obtain ⟨H6, hj⟩ := hj; have HS := hj; clear hj; subst hl_; subst ha_; have q3 : l3 = true := hall 3 (by omega)
      have q5 : l5 = true := hall 5 (by omega)
      have q6 : l6 = true := hall 6 (by omega)
      clear hall; obtain ⟨n3, e3, c3_0, c3_1⟩ := (H3.out q3)
      subst e3; have e5 := (H5.out q5)
      subst e5; obtain ⟨n6, e6, c6_0, c6_1⟩ := (H6.out q6)
      subst e6; refine tail_any (fun a x => ∃ (t4 t5 t18 t19 t20 t21 t22 t23 : Value), a = ⟨(.pointer (some ⟨b, 0, none⟩) :: undef :: .pointer (some ⟨w.heap.size, 0, none⟩) :: .pointer (some ⟨S, 0, none⟩) :: t4 :: t5 :: undef :: undef :: u8 :: u9 :: u10 :: u11 :: u12 :: u13 :: u14 :: u15 :: u16 :: u17 :: t18 :: t19 :: t20 :: t21 :: t22 :: t23 :: u24 :: u25 :: u26 :: u27 :: u28 :: u29 :: u30 :: u31 :: u32 :: u33 :: u34 :: u35 :: u36 :: u37 :: u38 :: u39 :: u40 :: u41 :: u42 :: u43 :: u44 :: u45 :: u46 :: u47 :: u48 :: u49 :: u50 :: u51 :: u52 :: u53 :: u54 :: u55 :: u56 :: u57 :: u58 :: u59 :: u60 :: u61 :: u62 :: u63 :: u64 :: []).toArray, []⟩ ∧ ∃ at_ : Int, t4 = .int .i64 at_ ∧ (0 ≤ at_ ∧ at_ ≤ 864000) ∧ t5 = .int .i64 v1 ∧ Sofar b wx x) ?_ fun QQ hQ => ?_
      · intro a x hpost; obtain ⟨t4, hpost⟩ := hpost
        obtain ⟨t5, hpost⟩ := hpost; obtain ⟨t18, hpost⟩ := hpost; obtain ⟨t19, hpost⟩ := hpost; obtain ⟨t20, hpost⟩ := hpost; obtain ⟨t21, hpost⟩ := hpost; obtain ⟨t22, hpost⟩ := hpost; obtain ⟨t23, hpost⟩ := hpost; obtain ⟨ha_, hpost⟩ := hpost; subst ha_; obtain ⟨at0, rfl, hat0, rfl, hS_⟩ := hpost; have HB1 := Lib.hid (hS_.blk HB.out hSb)
        have HR1 := Lib.hid (hS_.blk HR.out hRb)
        have HK1 := Lib.hid (but_then HK.out hS_.but HK.out.size)
        have HD1 := Lib.hid hS_.dice
        clear hS_ HB HR HK HD0 hbB; go_wp2_with fail
        refine (next_any b 4 _ HD1.out (by omega) (by omega)).mono ?_
        rintro e w1 ⟨n, rfl, h0, h1, -, hd1, ho1⟩; have h1 := h1 (by omega)
        have HB2 := Lib.hid (HB1.out.only ho1 hSb)
        have HR2 := Lib.hid (HR1.out.only ho1 hRb)
        have HK2 := Lib.hid (but_only HK1.out ho1)
        have HD2 := Lib.hid hd1; clear HB1 HR1 HK1 HD1 hd1 ho1; go_wp2_with fail
        go_loopw [4, 5, 6] (fun av nv kv wr => ∃ (at_ now k : Int) (pz : Option Addr) (cz : Nat) (sh : List (Int × Int)), av = .int .i64 at_ ∧ nv = .int .i64 now ∧ kv = .int .i64 k ∧ 0 ≤ k ∧ k ≤ 3 ∧ (sh.length : Int) + k ≤ 3 ∧ 0 ≤ at_ ∧ at_ ≤ 894000 - 10000 * k ∧ -840 ≤ now ∧ now ≤ 840 ∧ Hid (Tt.ShP v1 sh at_ now) ∧ Hid (Blk S #[.string nm, .int .i64 v1, .slice pz sh.length cz] 50 wr) ∧ Hid (Blk w.heap.size #[.string ⟨#[]⟩, .int .i64 0, .slice none 0 0] 50 wr) ∧ Hid (RowZ w.heap.size wr (.slice pz sh.length cz) sh) ∧ Hid (Dice b wr) ∧ Hid (But b w.heap.size w wr)) (fun _ _ kv _ => (intOf kv).toNat)
        case atStart => exact ⟨_, _, n, none, 0, [], rfl, rfl, rfl, by omega, by omega, by simp; omega, by omega, by omega, by have := HN.out; omega, by have := HN.out; omega, Lib.hid (Tt.ShP.start _ _), HB2, HR2, Lib.hid (RowZ.nil _ _), HD2, HK2⟩
        case round =>
          clear HB2 HR2 HD2 HK2; obtain ⟨at_, now, k, pz, cz, sh, rfl, rfl, rfl, k0, k1, hl, a_0, a_1, n_0, n_1, HP, HB, HR, HE, HD, HK⟩ := hrel; by_cases hlt : 0 < k
          · go_wp2_with fail
            refine (next_any b 4 _ HD.out (by omega) (by omega)).mono ?_
            rintro e w2 ⟨a, rfl, a0, a1, -, hd2, ho2⟩; have a1 := a1 (by omega)
            have HB2 := Lib.hid (HB.out.only ho2 hSb)
            have HR2 := Lib.hid (HR.out.only ho2 hRb)
            have HK2 := Lib.hid (but_only HK.out ho2)
            have HE2 := Lib.hid (show RowZ w.heap.size w2 _ sh from ownsRow_only HE.out hblt ho2)
            have HD2 := Lib.hid hd2; clear HB HR HK HE HD hd2 ho2; go_wp2_with fail
            have HG2 := Lib.hid (Blk.new w2 #[.int .i64 60, .int .i64 (-60), .int .i64 30, .int .i64 (-180), .int .i64 180, .int .i64 1] 3)
            have hgb : w2.heap.size ≠ b := by have := HD2.out.lt; omega
            refine (next_any b 6 _ (dice_alloc HD2.out _) (by omega) (by omega)).mono ?_
            rintro e w3 ⟨c, rfl, c0, c1, -, hd3, ho3⟩; have c1 := c1 (by omega)
            have B3 := (HB2.out.alloc (.cells #[.int .i64 60, .int .i64 (-60), .int .i64 30, .int .i64 (-180), .int .i64 180, .int .i64 1] 3)).only ho3 hSb
            have R3 := (HR2.out.alloc (.cells #[.int .i64 60, .int .i64 (-60), .int .i64 30, .int .i64 (-180), .int .i64 180, .int .i64 1] 3)).only ho3 hRb
            have K3 := but_only (but_alloc HK2.out HK2.out.size (.cells #[.int .i64 60, .int .i64 (-60), .int .i64 30, .int .i64 (-180), .int .i64 180, .int .i64 1] 3)) ho3
            have E3 : RowZ w.heap.size w3 _ sh := ownsRow_only (World.ownsRow.alloc HE2.out (.cells #[.int .i64 60, .int .i64 (-60), .int .i64 30, .int .i64 (-180), .int .i64 180, .int .i64 1] 3)) hblt ho3
            have hG := HG2.out.only ho3 hgb; have hs3 := K3.size; obtain ⟨by_, hc, b_0, b_1, b_2⟩ : ∃ n, w3.cell? ⟨w2.heap.size, c.toNat, none⟩ = some (.int .i64 n) ∧ n ≠ 0 ∧ -180 ≤ n ∧ n ≤ 180 := by
              rcases (show c = 0 ∨ c = 1 ∨ c = 2 ∨ c = 3 ∨ c = 4 ∨ c = 5 by omega) with rfl | rfl | rfl | rfl | rfl | rfl
              · exact ⟨_, hG.cell 0, by decide, by decide, by decide⟩
              · exact ⟨_, hG.cell 1, by decide, by decide, by decide⟩
              · exact ⟨_, hG.cell 2, by decide, by decide, by decide⟩
              · exact ⟨_, hG.cell 3, by decide, by decide, by decide⟩
              · exact ⟨_, hG.cell 4, by decide, by decide, by decide⟩
              · exact ⟨_, hG.cell 5, by decide, by decide, by decide⟩
            have l2 : w3.cell? ⟨S, 2, none⟩ = some (.slice pz sh.length cz) := B3.cell 2
            clear HG2 HB2 HR2 HK2 HE2 HD2 hG ho3; have HE3 := Lib.hid E3; have HB3 := Lib.hid B3; have HR3 := Lib.hid R3; have HK3 := Lib.hid K3; have HD3 := Lib.hid hd3; clear E3 B3 R3 K3 hd3; go_upto_region 11 with (fail)
            all_goals
              have B3 := HB3.out; have R3 := HR3.out; have K3 := HK3.out; have E3 := HE3.out; have hd3 := HD3.out; go_wp2_with (at_builtin; refine wpList_append_own_at _ rfl (.tmp 57) (.tmp 61) 48 rfl w.heap.size 137 i0 _ 2 16 Tryz.underlying48 hi hz0 hz1 hz2 rfl (by decide) _ _ _ rfl (World.ownsRow.alloc E3 _) ⟨w3.heap.size, 0, none⟩ 1 1 [.int .i64 _, .int .i64 _] rfl rfl (blk_cells (Blk.new w3 #[.int .i64 _, .int .i64 _] 137)) (by intro u hu; simp at hu; rcases hu with rfl | rfl <;> rfl) (by unfold maxLen; omega) (by omega) (by simp; omega) ?_)
              intro v' w8 hown8 hgrow _ hat; obtain ⟨p8, q8, hv8⟩ := ownsRow_len hown8
              subst hv8; have S8 := (B3.alloc (.cells #[.int .i64 _, .int .i64 _] 137)).grown (World.ownsRow.alloc E3 _) hgrow (by decide)
              have R8 := (R3.alloc (.cells #[.int .i64 _, .int .i64 _] 137)).grown (World.ownsRow.alloc E3 _) hgrow (by decide)
              have D8 := dice_grown (dice_alloc hd3 _) (World.ownsRow.alloc E3 _) hblt (by simp; omega) hgrow
              have K8 := but_grown (but_alloc K3 K3.size _) (World.ownsRow.alloc E3 _) (by simp; omega) hgrow
              have E8 := RowZ.snoc hown8; have f0 : w8.cell? ⟨S, 2, none⟩ = some (.slice pz sh.length cz) := S8.cell 2
              have z0 := S8.frozen 2; have HS9 := Lib.hid (show Blk S #[.string nm, .int .i64 v1, .slice p8 (sh.length + 1) q8] 50 _ from S8.set 2 (.slice p8 (sh.length + 1) q8))
              have HR9 := Lib.hid (R8.set_other hRS2 2 (.slice p8 (sh.length + 1) q8))
              have HE9 := Lib.hid (row_set E8 S8 (by decide) 2 (.slice p8 (sh.length + 1) q8))
              have HD9 := Lib.hid (dice_set (i := 2) (u := .slice p8 (sh.length + 1) q8) D8 hbS)
              have HK9 := Lib.hid (but_set (i := 2) (u := .slice p8 (sh.length + 1) q8) K8 hRS3)
              clear hgrow hown8 hat S8 R8 D8 K8 E8 B3 R3 E3 K3 hd3; go_wp2_with fail
              go_roundw
              case rel => exact ⟨_, _, k - 1, p8, q8, sh ++ [(_, _)], rfl, rfl, rfl, by omega, by omega, by simp; omega, by omega, by omega, by omega, by omega, Lib.hid (HP.out.snoc (by omega) (by omega) (by omega) (by omega) (by omega) (by omega) (by omega) (by omega)), Lib.hid (by simpa using HS9.out), HR9, Lib.hid (by simpa [RowZ] using HE9.out), HD9, HK9⟩
              case measure => simp [intOf]; omega
          · skip
            obtain ⟨c0, c1, c2⟩ := And.intro (HB.out.cell 0) (And.intro (HB.out.cell 1) (HB.out.cell 2))
            simp only [List.getElem?_toArray, List.getElem?_cons_zero, List.getElem?_cons_succ] at c0 c1 c2
            obtain ⟨r0, r1, r2⟩ := And.intro (HR.out.cell 0) (And.intro (HR.out.cell 1) (HR.out.cell 2))
            simp only [List.getElem?_toArray, List.getElem?_cons_zero, List.getElem?_cons_succ] at r0 r1 r2
            obtain ⟨z0, z1, z2⟩ := And.intro (HR.out.frozen 0) (And.intro (HR.out.frozen 1) (HR.out.frozen 2))
            go_wp2_with fail
            obtain ⟨W, hW, B3, fX, fD, fK⟩ := fill3 HR.out (.string nm) (.int .i64 v1) (.slice pz sh.length cz)
            rw [← hW]; have E3 := fX _ _ _ _ _ _ (by decide) HE.out
            have D3 := fD b hblt HD.out
            have K3 := fK b w.heap.size w (Nat.le_refl _) HK.out
            clear hW fX fD fK r0 r1 r2 c0 c1 c2 z0 z1 z2; have r0 : W.cell? ⟨w.heap.size, 0, none⟩ = some (.string nm) := B3.cell 0
            have r1 : W.cell? ⟨w.heap.size, 1, none⟩ = some (.int .i64 v1) := B3.cell 1
            have r2 : W.cell? ⟨w.heap.size, 2, none⟩ = some (.slice pz sh.length cz) := B3.cell 2
            refine bodyPost_ret (v := .agg #[.string nm, .int .i64 v1, .slice pz sh.length cz]) (by simp [results, Tryz.results30, go_sem, r0, r1, r2]) rfl ?_
            exact ⟨nm, v1, pz, cz, sh, rfl, by rw [HN.out.1]; exact Tt.zone_ok HP.out (by have := HN.out; omega) (by have := HN.out; omega) (by omega), by omega, E3, D3, K3⟩
      have hQQ := Lib.hid hQ; clear hQ; simp only [List.drop_succ_cons, List.drop_zero]
      go_wp2_with fail
      exact hQQ.out _ _ ⟨_, _, _, _, _, _, _, _, rfl, _, rfl, ⟨by omega, by omega⟩, rfl, HS.out⟩
end Go.Proofs.YtageielcdebjlaaGreatDoor
