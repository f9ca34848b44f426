/- The generators of times and terms: their contracts. -/
import Derived.Test.YtcomifbfldoeiaaGreatDoorPk20
import Derived.Test.YtcomifbfldoeiaaGreatDoorPk8
namespace Go.Proofs.YtcomifbfldoeiaaGreatDoor
open Go.RowKit

theorem Sofar.grow {b lo n k : Nat} {w0 w w2 : World} {e : TypeId} {v : Value} {xs : List Value} (h : Sofar b w0 w) (hown : w.ownsRow lo e k v n xs) (hl : w0.heap.size ≤ lo) (hb : b < lo) (hw : lo ≤ w.heap.size) (hg : w.grownBy w2 v.ownBlock) : Sofar b w0 w2 :=
  ⟨but_grown h.but (ownsRow_mono hown hl) h.but.size hg, dice_grown h.dice hown hb hw hg⟩
/-- A drawn time: what is known of it. -/
structure Tt.TimOk (g : Tt.Grd) (n : Int) (x : Tt.Tim) : Prop where
  w0 : 1 ≤ x.weeks
  w1 : x.weeks < ((2 ^ n.toNat : Nat) : Int)
  d0 : 0 ≤ x.day
  d1 : x.day < g.days
  s0 : 0 ≤ x.start
  l0 : 1 ≤ x.len
  l1 : x.start + x.len ≤ g.slots
theorem Tt.TimOk.fits {g : Tt.Grd} {n : Int} {x : Tt.Tim} (h : Tt.TimOk g n x) (hg : Tt.gridV g = 0) (hn0 : 1 ≤ n) (hn1 : n ≤ 20) : Tt.fitsV g n x = 0 := by
  obtain ⟨w0, w1, d0, d1, s0, l0, l1⟩ := h; have hw : Tt.weeksB x.weeks n = true := by unfold Tt.weeksB; exact decide_eq_true ⟨hn0, hn1, w0, w1⟩
  have h2 : ((2 ^ n.toNat : Nat) : Int) ≤ ((2 ^ (20 : Int).toNat : Nat) : Int) := by
    have : 2 ^ n.toNat ≤ 2 ^ (20 : Int).toNat := Nat.pow_le_pow_right (by omega) (by show n.toNat ≤ 20; omega)
    omega
  have hw2 : Tt.weeksB x.weeks 20 = true := by unfold Tt.weeksB; exact decide_eq_true ⟨by omega, by omega, w0, by omega⟩
  have hb : g.days ≤ 7 ∧ g.slots ≤ 24 := by
    unfold Tt.gridV at hg
    split at hg
    · cases hg
    · omega
  unfold Tt.fitsV
  rw [if_pos ⟨hg, hn0, hn1⟩, if_pos ⟨(Tt.soundB_iff x).2 ⟨hw2, d0, by omega, s0, by omega, l0, by omega⟩, hw, d1, l1⟩]
/-- Holidays that ascend, from a day on, ahead of a day. -/
def Tt.HolP (f k d : Int) (xs : List Int) : Prop := f ≤ d ∧ xs.Pairwise (· < ·) ∧ ∀ h ∈ xs, f ≤ h ∧ h < d ∧ h < f + 7 * k
theorem Tt.HolP.start (f k : Int) : Tt.HolP f k f [] := ⟨Int.le_refl _, List.Pairwise.nil, fun h hh => by cases hh⟩
theorem Tt.HolP.step {f k d a : Int} {xs : List Int} (h : Tt.HolP f k d xs) (ha : 0 ≤ a) (hl : ¬ f + 7 * k ≤ d + a) : Tt.HolP f k (d + a + 1) (xs ++ [d + a]) := by
  obtain ⟨h1, h2, h3⟩ := h; refine ⟨by omega, ?_, ?_⟩
  · rw [List.pairwise_append]
    exact ⟨h2, List.pairwise_singleton _ _, fun x hx y hy => by rw [List.mem_singleton] at hy; have := h3 x hx; omega⟩
  · intro x hx; rcases List.mem_append.1 hx with e | e
    · have := h3 x e; omega
    · rw [List.mem_singleton] at e; omega
theorem Tt.holV_zero (a b : Int) : ∀ (l : List Int) (p : Option Int), l.Pairwise (· < ·) → (∀ h ∈ l, a ≤ h ∧ h ≤ b) → (∀ q, p = some q → ∀ h ∈ l, q < h) → Tt.holV a b p l = 0
  | [], _, _, _, _ => rfl
  | x :: r, p, hs, hb, hp => by
    rw [List.pairwise_cons] at hs
    have hx := hb x (by simp)
    rw [Tt.holV, if_neg (by omega), if_neg]
    · exact Tt.holV_zero a b r (some x) hs.2 (fun h hh => hb h (by simp [hh])) (fun q hq h hh => by cases hq; exact hs.1 h hh)
    · cases p with
      | none => simp
      | some q => have := hp q rfl x (by simp); simp; omega
theorem Tt.trm_ok {f k d m : Int} {xs : List Int} (h : Tt.HolP f k d xs) (hm : f = 2 + 7 * m) (h0 : 0 ≤ m) (h1 : m < 5000) (k0 : 1 ≤ k) (k1 : k ≤ 8) (hl : xs.length ≤ 50) : Tt.trmV ⟨f, k, xs⟩ = 0 := by
  obtain ⟨g1, g2, g3⟩ := h; have e1 : Tt.isD f = true := (Tt.isD_iff f).2 ⟨by omega, by omega⟩
  have e2 : Tt.wkdV f = 0 := by unfold Tt.wkdV Tt.wk; rw [if_pos e1]; omega
  have e3 : Tt.lastT ⟨f, k, xs⟩ = f + 7 * k - 1 := rfl
  have e4 : Tt.isD (f + 7 * k - 1) = true := (Tt.isD_iff _).2 ⟨by omega, by omega⟩
  unfold Tt.trmV
  rw [if_neg (by show ¬ Tt.wkdV f ≠ 0; omega), if_neg (by show ¬ (k < 1 ∨ 20 < k); omega), e3, if_neg (by rw [e4]; decide), if_neg (by show ¬ 64 < (xs.length : Int); omega)]
  exact Tt.holV_zero f (f + 7 * k - 1) xs none g2 (fun h hh => by have := g3 h hh; omega) (fun q hq => by cases hq)
set_option maxHeartbeats 8000000 in
set_option maxRecDepth 100000 in
theorem time72v (b : Nat) (g : Tt.Grd) (n : Int) (w : World) (hd : Dice b w) (hn0 : 1 ≤ n) (hn1 : n ≤ 8) (g0 : 1 ≤ g.days) (g1 : g.days ≤ 5) (g2 : 2 ≤ g.slots) (g3 : g.slots ≤ 8) : Calls Tryz.prog 76 #[.pointer (some ⟨b, 0, none⟩), grdVal g, .int .i64 n] w fun e w' => ∃ x : Tt.Tim, e = .returned (timVal x) ∧ Tt.TimOk g n x ∧ Sofar b w w' := by
  unfold grdVal
  have hblt := hd.lt; obtain ⟨P, hP⟩ : ∃ g, g = w.heap.size := ⟨_, rfl⟩
  obtain ⟨R, hR⟩ : ∃ g, g = w.heap.size + 1 := ⟨_, rfl⟩
  obtain ⟨w0, hw0⟩ : ∃ X, X = ((w.alloc (.cells #[.int .i64 g.days, .int .i64 g.slots, .int .i64 g.begin_, .int .i64 g.mins] 91)).alloc (.cells #[.int .i64 0, .int .i64 0, .int .i64 0, .int .i64 0] 108)) := ⟨_, rfl⟩
  have HS_w0 := Lib.hid (show Sofar b w w0 from by rw [hw0]; exact (((Sofar.refl hd).alloc _).alloc _))
  have HP_w0 := Lib.hid (show Blk P #[.int .i64 g.days, .int .i64 g.slots, .int .i64 g.begin_, .int .i64 g.mins] 91 w0 from by rw [hw0, hP]; exact (Blk.new' _ _ _ (by simp)).alloc _)
  have lP : w.heap.size ≤ P := by omega
  have HR_w0 := Lib.hid (show Blk R #[.int .i64 0, .int .i64 0, .int .i64 0, .int .i64 0] 108 w0 from by rw [hw0, hR]; exact Blk.new' _ _ _ (by simp))
  have lR : w.heap.size ≤ R := by omega
  have nRP : R ≠ P := by omega
  have bP : b < P := by omega
  have bR : b < R := by omega
  go_enter Tryz.func76, Tryz.ntmps76
  go_upto_region 1 with (fail)
  rw [← hw0, ← hR, ← hP]; clear hw0 hP hR; have nPb : P ≠ b := by omega
  have nRb : R ≠ b := by omega
  have hbB : b < w0.heap.size := HS_w0.out.dice.lt
  have hws := HS_w0.out.but.size; refine wp_region_tail 13 (by kernel_rfl) (fun listed a x => ∃ (l0 l1 l2 l3 l4 l5 l6 l7 l8 l9 l10 l11 l12 : Bool) (t7 t8 t9 t10 t11 t12 t13 t14 t15 t16 t17 t18 t19 : Value), listed = #[l0, l1, l2, l3, l4, l5, l6, l7, l8, l9, l10, l11, l12, false] ∧ a = ⟨(.pointer (some ⟨b, 0, none⟩) :: .agg #[.int .i64 g.days, .int .i64 g.slots, .int .i64 g.begin_, .int .i64 g.mins] :: .int .i64 n :: undef :: .pointer (some ⟨P, 0, none⟩) :: undef :: .pointer (some ⟨R, 0, none⟩) :: t7 :: t8 :: t9 :: t10 :: t11 :: t12 :: t13 :: t14 :: t15 :: t16 :: t17 :: t18 :: t19 :: undef :: undef :: undef :: undef :: undef :: undef :: undef :: undef :: undef :: undef :: []).toArray, []⟩ ∧ Hid (l0 = true → t8 = .pointer (some ⟨b, 0, none⟩)) ∧ Hid (l1 = true → t9 = .int .i64 n) ∧ Hid (l2 = true → ∃ (m : Int), t10 = .int .i64 m ∧ 1 ≤ m ∧ m < ((2 ^ n.toNat : Nat) : Int)) ∧ Hid (l3 = true → t11 = .pointer (some ⟨b, 0, none⟩)) ∧ Hid (l4 = true → t12 = .pointer (some ⟨P, 0, none⟩)) ∧ Hid (l5 = true → t13 = .int .i64 g.days) ∧ Hid (l6 = true → ∃ (m : Int), t14 = .int .i64 m ∧ 0 ≤ m ∧ m < g.days) ∧ Hid (l7 = true → t15 = .pointer (some ⟨b, 0, none⟩)) ∧ Hid (l8 = true → t16 = .pointer (some ⟨P, 1, none⟩)) ∧ Hid (l9 = true → t17 = .int .i64 g.slots) ∧ Hid (l10 = true → ∃ (n : Int), t18 = .int .i64 n ∧ 0 ≤ n ∧ n < g.slots) ∧ Hid (l11 = true → ∃ (p : Int) (q : Int) (r : Int), t19 = .agg #[.int .i64 p, .int .i64 q, .int .i64 r, .int .i64 0] ∧ 0 ≤ r ∧ r < g.slots ∧ 0 ≤ q ∧ q < g.days ∧ 1 ≤ p ∧ p < ((2 ^ n.toNat : Nat) : Int)) ∧ Hid (l12 = true → ∃ (S : Nat), t7 = .pointer (some ⟨S, 0, none⟩) ∧ w0.heap.size ≤ S ∧ Blk S #[.int .i64 0, .int .i64 0, .int .i64 0, .int .i64 0] 108 x) ∧ Hid (Sofar b w0 x)) (by decide) (by kernel_rfl) (by kernel_rfl) ?_ ?_ ?_ ?_
  · exact ⟨false, false, false, false, false, false, false, false, false, false, false, false, false, _, _, _, _, _, _, _, _, _, _, _, _, _, rfl, rfl, Lib.hid (fun h => by cases h), Lib.hid (fun h => by cases h), Lib.hid (fun h => by cases h), Lib.hid (fun h => by cases h), Lib.hid (fun h => by cases h), Lib.hid (fun h => by cases h), Lib.hid (fun h => by cases h), Lib.hid (fun h => by cases h), Lib.hid (fun h => by cases h), Lib.hid (fun h => by cases h), Lib.hid (fun h => by cases h), Lib.hid (fun h => by cases h), Lib.hid (fun h => by cases h), Lib.hid (Sofar.start HS_w0.out.dice)⟩
  · intro listed a x hj; obtain ⟨l0, hj⟩ := hj
    obtain ⟨l1, hj⟩ := hj; obtain ⟨l2, hj⟩ := hj; obtain ⟨l3, hj⟩ := hj; obtain ⟨l4, hj⟩ := hj; obtain ⟨l5, hj⟩ := hj; obtain ⟨l6, hj⟩ := hj; obtain ⟨l7, hj⟩ := hj; obtain ⟨l8, hj⟩ := hj; obtain ⟨l9, hj⟩ := hj; obtain ⟨l10, hj⟩ := hj; obtain ⟨l11, hj⟩ := hj; obtain ⟨l12, hj⟩ := hj; obtain ⟨t7, hj⟩ := hj; obtain ⟨t8, hj⟩ := hj; obtain ⟨t9, hj⟩ := hj; obtain ⟨t10, hj⟩ := hj; obtain ⟨t11, hj⟩ := hj; obtain ⟨t12, hj⟩ := hj; obtain ⟨t13, hj⟩ := hj; obtain ⟨t14, hj⟩ := hj; obtain ⟨t15, hj⟩ := hj; obtain ⟨t16, hj⟩ := hj; obtain ⟨t17, hj⟩ := hj; obtain ⟨t18, hj⟩ := hj; obtain ⟨t19, hj⟩ := hj; obtain ⟨h1, -⟩ := hj; subst h1; exact ⟨rfl, fun k h1 h2 => by (have h2 : k < 14 := h2); obtain rfl : k = 13 := (by omega); rfl⟩
  · intro listed a x i hj hlt hu haf; obtain ⟨l0, hj⟩ := hj
    obtain ⟨l1, hj⟩ := hj; obtain ⟨l2, hj⟩ := hj; obtain ⟨l3, hj⟩ := hj; obtain ⟨l4, hj⟩ := hj; obtain ⟨l5, hj⟩ := hj; obtain ⟨l6, hj⟩ := hj; obtain ⟨l7, hj⟩ := hj; obtain ⟨l8, hj⟩ := hj; obtain ⟨l9, hj⟩ := hj; obtain ⟨l10, hj⟩ := hj; obtain ⟨l11, hj⟩ := hj; obtain ⟨l12, hj⟩ := hj; obtain ⟨t7, hj⟩ := hj; obtain ⟨t8, hj⟩ := hj; obtain ⟨t9, hj⟩ := hj; obtain ⟨t10, hj⟩ := hj; obtain ⟨t11, hj⟩ := hj; obtain ⟨t12, hj⟩ := hj; obtain ⟨t13, hj⟩ := hj; obtain ⟨t14, hj⟩ := hj; obtain ⟨t15, hj⟩ := hj; obtain ⟨t16, hj⟩ := hj; obtain ⟨t17, hj⟩ := hj; obtain ⟨t18, hj⟩ := hj; obtain ⟨t19, hj⟩ := hj; obtain ⟨hl_, hj⟩ := hj; obtain ⟨ha_, hj⟩ := hj; obtain ⟨H0, hj⟩ := hj; obtain ⟨H1, hj⟩ := hj; obtain ⟨H2, hj⟩ := hj; obtain ⟨H3, hj⟩ := hj; obtain ⟨H4, hj⟩ := hj; obtain ⟨H5, hj⟩ := hj; obtain ⟨H6, hj⟩ := hj; obtain ⟨H7, hj⟩ := hj; obtain ⟨H8, hj⟩ := hj; obtain ⟨H9, hj⟩ := hj; obtain ⟨H10, hj⟩ := hj; obtain ⟨H11, hj⟩ := hj; obtain ⟨H12, hj⟩ := hj; have HS := hj; clear hj; subst hl_; subst ha_; rcases (show ∀ i : Nat, i < 13 → (i = 0 ∨ i = 1 ∨ i = 2 ∨ i = 3 ∨ i = 4 ∨ i = 5 ∨ i = 6 ∨ i = 7 ∨ i = 8 ∨ i = 9 ∨ i = 10 ∨ i = 11 ∨ i = 12) by decide) i hlt with rfl | rfl | rfl | rfl | rfl | rfl | rfl | rfl | rfl | rfl | rfl | rfl | rfl
    · have haf := haf _ rfl; clear haf
      have hu : l0 = false := hu
      refine wpOp_of_list_any rfl fun QQ hQ => ?_
      have hQQ := Lib.hid hQ; clear hQ; simp only [List.getElem_toArray, List.getElem_cons_zero]
      go_wp2_with fail
      exact hQQ.out _ _ ⟨true, l1, l2, l3, l4, l5, l6, l7, l8, l9, l10, l11, l12, _, _, _, _, _, _, _, _, _, _, _, _, _, rfl, rfl, Lib.hid (fun _ => rfl), H1, H2, H3, H4, H5, H6, H7, H8, H9, H10, H11, H12, HS⟩
    · have haf := haf _ rfl; clear haf
      have hu : l1 = false := hu
      refine wpOp_of_list_any rfl fun QQ hQ => ?_
      have hQQ := Lib.hid hQ; clear hQ; simp only [List.getElem_toArray, List.getElem_cons_zero, List.getElem_cons_succ]
      go_wp2_with fail
      exact hQQ.out _ _ ⟨l0, true, l2, l3, l4, l5, l6, l7, l8, l9, l10, l11, l12, _, _, _, _, _, _, _, _, _, _, _, _, _, rfl, rfl, H0, Lib.hid (fun _ => rfl), H2, H3, H4, H5, H6, H7, H8, H9, H10, H11, H12, HS⟩
    · have haf := haf _ rfl; have q0 : l0 = true := haf ⟨0, Go.Ground.data⟩ (by simp) rfl
      have q1 : l1 = true := haf ⟨1, Go.Ground.data⟩ (by simp) rfl
      clear haf; have hu : l2 = false := hu
      have e0 := (H0.out q0)
      subst e0; clear H0; have e1 := (H1.out q1)
      subst e1; clear H1; refine wpOp_of_list_any rfl fun QQ hQ => ?_
      have hQQ := Lib.hid hQ; clear hQ; simp only [List.getElem_toArray, List.getElem_cons_zero, List.getElem_cons_succ]
      go_wp2_with fail
      refine (set143 b n _ HS.out.dice hn0 hn1).mono ?_
      rintro e x1 ⟨v, rfl, v0, v1, hs1⟩; have hk := Kept.but hs1.but (B := w0.heap.size) hbB
      have HS1 := Lib.hid (HS.out.trans hs1)
      clear hs1; go_wp2_with fail
      exact hQQ.out _ _ ⟨l0, l1, true, l3, l4, l5, l6, l7, l8, l9, l10, l11, l12, _, _, _, _, _, _, _, _, _, _, _, _, _, rfl, rfl, Lib.hid (fun _ => rfl), Lib.hid (fun _ => rfl), Lib.hid (fun _ => ⟨_, rfl, v0, v1⟩), H3, H4, H5, H6, H7, H8, H9, H10, H11, Lib.hid (fun h => (by obtain ⟨S, e, c0, c1⟩ := H12.out h; exact ⟨S, e, c0, (hk _ _ _ c0 c1)⟩)), HS1⟩
    · have haf := haf _ rfl; clear haf
      have hu : l3 = false := hu
      refine wpOp_of_list_any rfl fun QQ hQ => ?_
      have hQQ := Lib.hid hQ; clear hQ; simp only [List.getElem_toArray, List.getElem_cons_zero, List.getElem_cons_succ]
      go_wp2_with fail
      exact hQQ.out _ _ ⟨l0, l1, l2, true, l4, l5, l6, l7, l8, l9, l10, l11, l12, _, _, _, _, _, _, _, _, _, _, _, _, _, rfl, rfl, H0, H1, H2, Lib.hid (fun _ => rfl), H4, H5, H6, H7, H8, H9, H10, H11, H12, HS⟩
    · have haf := haf _ rfl; clear haf
      have hu : l4 = false := hu
      refine wpOp_of_list_any rfl fun QQ hQ => ?_
      have hQQ := Lib.hid hQ; clear hQ; simp only [List.getElem_toArray, List.getElem_cons_zero, List.getElem_cons_succ]
      go_wp2_with fail
      exact hQQ.out _ _ ⟨l0, l1, l2, l3, true, l5, l6, l7, l8, l9, l10, l11, l12, _, _, _, _, _, _, _, _, _, _, _, _, _, rfl, rfl, H0, H1, H2, H3, Lib.hid (fun _ => rfl), H5, H6, H7, H8, H9, H10, H11, H12, HS⟩
    · have haf := haf _ rfl; have q4 : l4 = true := haf ⟨4, Go.Ground.data⟩ (by simp) rfl
      clear haf; have hu : l5 = false := hu
      have e4 := (H4.out q4)
      subst e4; clear H4; have hc : x.cell? ⟨P, 0, none⟩ = some (.int .i64 g.days) := (HS.out.blk HP_w0.out nPb).cell 0
      refine wpOp_of_list_any rfl fun QQ hQ => ?_
      have hQQ := Lib.hid hQ; clear hQ; simp only [List.getElem_toArray, List.getElem_cons_zero, List.getElem_cons_succ]
      go_wp2_with fail
      exact hQQ.out _ _ ⟨l0, l1, l2, l3, l4, true, l6, l7, l8, l9, l10, l11, l12, _, _, _, _, _, _, _, _, _, _, _, _, _, rfl, rfl, H0, H1, H2, H3, Lib.hid (fun _ => rfl), Lib.hid (fun _ => rfl), H6, H7, H8, H9, H10, H11, H12, HS⟩
    · have haf := haf _ rfl; have q3 : l3 = true := haf ⟨3, Go.Ground.data⟩ (by simp) rfl
      have q5 : l5 = true := haf ⟨5, Go.Ground.data⟩ (by simp) rfl
      clear haf; have hu : l6 = false := hu
      have e3 := (H3.out q3)
      subst e3; clear H3; have e5 := (H5.out q5)
      subst e5; clear H5; refine wpOp_of_list_any rfl fun QQ hQ => ?_
      have hQQ := Lib.hid hQ; clear hQ; simp only [List.getElem_toArray, List.getElem_cons_zero, List.getElem_cons_succ]
      go_wp2_with fail
      refine (next_any b g.days _ HS.out.dice (by omega) (by omega)).mono ?_
      rintro e x1 ⟨v, rfl, h0, h1, -, hd1, ho1⟩; have h1 := h1 (by omega)
      have hk := Kept.only ho1 hbB; have HS1 := Lib.hid (HS.out.only hd1 ho1)
      clear ho1 hd1; go_wp2_with fail
      exact hQQ.out _ _ ⟨l0, l1, l2, l3, l4, l5, true, l7, l8, l9, l10, l11, l12, _, _, _, _, _, _, _, _, _, _, _, _, _, rfl, rfl, H0, H1, H2, Lib.hid (fun _ => rfl), H4, Lib.hid (fun _ => rfl), Lib.hid (fun _ => ⟨_, rfl, h0, h1⟩), H7, H8, H9, H10, H11, Lib.hid (fun h => (by obtain ⟨S, e, c0, c1⟩ := H12.out h; exact ⟨S, e, c0, (hk _ _ _ c0 c1)⟩)), HS1⟩
    · have haf := haf _ rfl; clear haf
      have hu : l7 = false := hu
      refine wpOp_of_list_any rfl fun QQ hQ => ?_
      have hQQ := Lib.hid hQ; clear hQ; simp only [List.getElem_toArray, List.getElem_cons_zero, List.getElem_cons_succ]
      go_wp2_with fail
      exact hQQ.out _ _ ⟨l0, l1, l2, l3, l4, l5, l6, true, l8, l9, l10, l11, l12, _, _, _, _, _, _, _, _, _, _, _, _, _, rfl, rfl, H0, H1, H2, H3, H4, H5, H6, Lib.hid (fun _ => rfl), H8, H9, H10, H11, H12, HS⟩
    · have haf := haf _ rfl; clear haf
      have hu : l8 = false := hu
      refine wpOp_of_list_any rfl fun QQ hQ => ?_
      have hQQ := Lib.hid hQ; clear hQ; simp only [List.getElem_toArray, List.getElem_cons_zero, List.getElem_cons_succ]
      go_wp2_with fail
      exact hQQ.out _ _ ⟨l0, l1, l2, l3, l4, l5, l6, l7, true, l9, l10, l11, l12, _, _, _, _, _, _, _, _, _, _, _, _, _, rfl, rfl, H0, H1, H2, H3, H4, H5, H6, H7, Lib.hid (fun _ => rfl), H9, H10, H11, H12, HS⟩
    · have haf := haf _ rfl; have q8 : l8 = true := haf ⟨8, Go.Ground.data⟩ (by simp) rfl
      clear haf; have hu : l9 = false := hu
      have e8 := (H8.out q8)
      subst e8; clear H8; have hc : x.cell? ⟨P, 1, none⟩ = some (.int .i64 g.slots) := (HS.out.blk HP_w0.out nPb).cell 1
      refine wpOp_of_list_any rfl fun QQ hQ => ?_
      have hQQ := Lib.hid hQ; clear hQ; simp only [List.getElem_toArray, List.getElem_cons_zero, List.getElem_cons_succ]
      go_wp2_with fail
      exact hQQ.out _ _ ⟨l0, l1, l2, l3, l4, l5, l6, l7, l8, true, l10, l11, l12, _, _, _, _, _, _, _, _, _, _, _, _, _, rfl, rfl, H0, H1, H2, H3, H4, H5, H6, H7, Lib.hid (fun _ => rfl), Lib.hid (fun _ => rfl), H10, H11, H12, HS⟩
    · have haf := haf _ rfl; have q7 : l7 = true := haf ⟨7, Go.Ground.data⟩ (by simp) rfl
      have q9 : l9 = true := haf ⟨9, Go.Ground.data⟩ (by simp) rfl
      clear haf; have hu : l10 = false := hu
      have e7 := (H7.out q7)
      subst e7; clear H7; have e9 := (H9.out q9)
      subst e9; clear H9; refine wpOp_of_list_any rfl fun QQ hQ => ?_
      have hQQ := Lib.hid hQ; clear hQ; simp only [List.getElem_toArray, List.getElem_cons_zero, List.getElem_cons_succ]
      go_wp2_with fail
      refine (next_any b g.slots _ HS.out.dice (by omega) (by omega)).mono ?_
      rintro e x1 ⟨v, rfl, h0, h1, -, hd1, ho1⟩; have h1 := h1 (by omega)
      have hk := Kept.only ho1 hbB; have HS1 := Lib.hid (HS.out.only hd1 ho1)
      clear ho1 hd1; go_wp2_with fail
      exact hQQ.out _ _ ⟨l0, l1, l2, l3, l4, l5, l6, l7, l8, l9, true, l11, l12, _, _, _, _, _, _, _, _, _, _, _, _, _, rfl, rfl, H0, H1, H2, H3, H4, H5, H6, Lib.hid (fun _ => rfl), H8, Lib.hid (fun _ => rfl), Lib.hid (fun _ => ⟨_, rfl, h0, h1⟩), H11, Lib.hid (fun h => (by obtain ⟨S, e, c0, c1⟩ := H12.out h; exact ⟨S, e, c0, (hk _ _ _ c0 c1)⟩)), HS1⟩
    · have haf := haf _ rfl; have q2 : l2 = true := haf ⟨2, Go.Ground.data⟩ (by simp) rfl
      have q6 : l6 = true := haf ⟨6, Go.Ground.data⟩ (by simp) rfl
      have q10 : l10 = true := haf ⟨10, Go.Ground.data⟩ (by simp) rfl
      clear haf; have hu : l11 = false := hu
      obtain ⟨m2, e2, c2_0, c2_1⟩ := (H2.out q2)
      subst e2; clear H2; obtain ⟨m6, e6, c6_0, c6_1⟩ := (H6.out q6)
      subst e6; clear H6; obtain ⟨n10, e10, c10_0, c10_1⟩ := (H10.out q10)
      subst e10; clear H10; refine wpOp_of_list_any rfl fun QQ hQ => ?_
      have hQQ := Lib.hid hQ; clear hQ; simp only [List.getElem_toArray, List.getElem_cons_zero, List.getElem_cons_succ]
      go_wp2_with fail
      exact hQQ.out _ _ ⟨l0, l1, l2, l3, l4, l5, l6, l7, l8, l9, l10, true, l12, _, _, _, _, _, _, _, _, _, _, _, _, _, rfl, rfl, H0, H1, Lib.hid (fun _ => ⟨m2, rfl, c2_0, c2_1⟩), H3, H4, H5, Lib.hid (fun _ => ⟨m6, rfl, c6_0, c6_1⟩), H7, H8, H9, Lib.hid (fun _ => ⟨n10, rfl, c10_0, c10_1⟩), Lib.hid (fun _ => ⟨_, _, _, rfl, c10_0, c10_1, c6_0, c6_1, c2_0, c2_1⟩), H12, HS⟩
    · have haf := haf _ rfl; clear haf
      have hu : l12 = false := hu
      refine wpOp_of_list_any rfl fun QQ hQ => ?_
      have hQQ := Lib.hid hQ; clear hQ; simp only [List.getElem_toArray, List.getElem_cons_zero, List.getElem_cons_succ]
      go_wp2_with fail
      exact hQQ.out _ _ ⟨l0, l1, l2, l3, l4, l5, l6, l7, l8, l9, l10, l11, true, _, _, _, _, _, _, _, _, _, _, _, _, _, rfl, rfl, H0, H1, H2, H3, H4, H5, H6, H7, H8, H9, H10, H11, Lib.hid (fun _ => ⟨_, rfl, HS.out.but.size, Blk.new x _ _⟩), Lib.hid (HS.out.alloc _)⟩
  · intro listed a x hj hall; obtain ⟨l0, hj⟩ := hj
    obtain ⟨l1, hj⟩ := hj; obtain ⟨l2, hj⟩ := hj; obtain ⟨l3, hj⟩ := hj; obtain ⟨l4, hj⟩ := hj; obtain ⟨l5, hj⟩ := hj; obtain ⟨l6, hj⟩ := hj; obtain ⟨l7, hj⟩ := hj; obtain ⟨l8, hj⟩ := hj; obtain ⟨l9, hj⟩ := hj; obtain ⟨l10, hj⟩ := hj; obtain ⟨l11, hj⟩ := hj; obtain ⟨l12, hj⟩ := hj; obtain ⟨t7, hj⟩ := hj; obtain ⟨t8, hj⟩ := hj; obtain ⟨t9, hj⟩ := hj; obtain ⟨t10, hj⟩ := hj; obtain ⟨t11, hj⟩ := hj; obtain ⟨t12, hj⟩ := hj; obtain ⟨t13, hj⟩ := hj; obtain ⟨t14, hj⟩ := hj; obtain ⟨t15, hj⟩ := hj; obtain ⟨t16, hj⟩ := hj; obtain ⟨t17, hj⟩ := hj; obtain ⟨t18, hj⟩ := hj; obtain ⟨t19, hj⟩ := hj; obtain ⟨hl_, hj⟩ := hj; obtain ⟨ha_, hj⟩ := hj; obtain ⟨H0, hj⟩ := hj; obtain ⟨H1, hj⟩ := hj; obtain ⟨H2, hj⟩ := hj; obtain ⟨H3, hj⟩ := hj; obtain ⟨H4, hj⟩ := hj; obtain ⟨H5, hj⟩ := hj; obtain ⟨H6, hj⟩ := hj; obtain ⟨H7, hj⟩ := hj; obtain ⟨H8, hj⟩ := hj; obtain ⟨H9, hj⟩ := hj; obtain ⟨H10, hj⟩ := hj; obtain ⟨H11, hj⟩ := hj; obtain ⟨H12, hj⟩ := hj; have HS := hj; clear hj; subst hl_; subst ha_; have q12 : l12 = true := hall 12 (by omega)
    have q11 : l11 = true := hall 11 (by omega)
    clear hall; obtain ⟨S12, e12, c12_0, c12_1⟩ := (H12.out q12)
    subst e12; obtain ⟨p11, q11, r11, e11, c11_0, c11_1, c11_2, c11_3, c11_4, c11_5⟩ := (H11.out q11)
    subst e11; have f0 : x.cell? ⟨S12, 0, none⟩ = some (.int .i64 0) := c12_1.cell 0
    have f1 : x.cell? ⟨S12, 1, none⟩ = some (.int .i64 0) := c12_1.cell 1
    have f2 : x.cell? ⟨S12, 2, none⟩ = some (.int .i64 0) := c12_1.cell 2
    have f3 : x.cell? ⟨S12, 3, none⟩ = some (.int .i64 0) := c12_1.cell 3
    have z0 := c12_1.frozen 0; have z1 := c12_1.frozen 1; have z2 := c12_1.frozen 2; have z3 := c12_1.frozen 3; refine tail_any (fun a x => ∃ (t7 t8 t9 t10 t11 t12 t13 t14 t15 t16 t17 t18 t19 : Value), a = ⟨(.pointer (some ⟨b, 0, none⟩) :: .agg #[.int .i64 g.days, .int .i64 g.slots, .int .i64 g.begin_, .int .i64 g.mins] :: .int .i64 n :: undef :: .pointer (some ⟨P, 0, none⟩) :: undef :: .pointer (some ⟨R, 0, none⟩) :: t7 :: t8 :: t9 :: t10 :: t11 :: t12 :: t13 :: t14 :: t15 :: t16 :: t17 :: t18 :: t19 :: undef :: undef :: undef :: undef :: undef :: undef :: undef :: undef :: undef :: undef :: []).toArray, []⟩ ∧ ∃ (Q : Nat) (p q r : Int), t7 = .pointer (some ⟨Q, 0, none⟩) ∧ 0 ≤ r ∧ r < g.slots ∧ (0 ≤ q ∧ q < g.days ∧ 1 ≤ p ∧ p < ((2 ^ n.toNat : Nat) : Int)) ∧ w0.heap.size ≤ Q ∧ Blk Q #[.int .i64 p, .int .i64 q, .int .i64 r, .int .i64 0] 108 x ∧ Sofar b w0 x) ?_ fun QQ hQ => ?_
    · intro a x hpost; obtain ⟨t7, hpost⟩ := hpost
      obtain ⟨t8, hpost⟩ := hpost; obtain ⟨t9, hpost⟩ := hpost; obtain ⟨t10, hpost⟩ := hpost; obtain ⟨t11, hpost⟩ := hpost; obtain ⟨t12, hpost⟩ := hpost; obtain ⟨t13, hpost⟩ := hpost; obtain ⟨t14, hpost⟩ := hpost; obtain ⟨t15, hpost⟩ := hpost; obtain ⟨t16, hpost⟩ := hpost; obtain ⟨t17, hpost⟩ := hpost; obtain ⟨t18, hpost⟩ := hpost; obtain ⟨t19, hpost⟩ := hpost; obtain ⟨ha_, hpost⟩ := hpost; subst ha_; obtain ⟨Q, p, q, r, rfl, rr0, rr1, hpq, lQ0, hBQ, hs⟩ := hpost; have HPQ := Lib.hid hpq; clear hpq; have HS_x := Lib.hid (HS_w0.out.trans hs)
      have HP_x := Lib.hid (hs.blk HP_w0.out nPb)
      have HR_x := Lib.hid (hs.blk HR_w0.out nRb)
      have HQ_x := Lib.hid hBQ; have lQ : w.heap.size ≤ Q := by omega
      have nQP : Q ≠ P := by have := HP_w0.out.lt; omega
      have nQR : Q ≠ R := by have := HR_w0.out.lt; omega
      clear hBQ hs HS_w0 HP_w0 HR_w0 hbB hws; have cP0 : x.cell? ⟨P, 0, none⟩ = some (.int .i64 g.days) := HP_x.out.cell 0
      have cP1 : x.cell? ⟨P, 1, none⟩ = some (.int .i64 g.slots) := HP_x.out.cell 1
      have cP2 : x.cell? ⟨P, 2, none⟩ = some (.int .i64 g.begin_) := HP_x.out.cell 2
      have cP3 : x.cell? ⟨P, 3, none⟩ = some (.int .i64 g.mins) := HP_x.out.cell 3
      have cQ0 : x.cell? ⟨Q, 0, none⟩ = some (.int .i64 p) := HQ_x.out.cell 0
      have cQ1 : x.cell? ⟨Q, 1, none⟩ = some (.int .i64 q) := HQ_x.out.cell 1
      have cQ2 : x.cell? ⟨Q, 2, none⟩ = some (.int .i64 r) := HQ_x.out.cell 2
      have cQ3 : x.cell? ⟨Q, 3, none⟩ = some (.int .i64 0) := HQ_x.out.cell 3
      go_wp2_with fail
      clear cP0 cP1 cP2 cP3; clear cQ0 cQ1 cQ2 cQ3; refine (next_any b (g.slots - r) _ HS_x.out.dice (by omega) (by omega)).mono ?_
      rintro e w1 ⟨a1, rfl, l1, u1, -, hd, ho⟩; have u1 := u1 (by omega)
      have HS_w1 := Lib.hid (HS_x.out.only hd ho)
      have HP_w1 := Lib.hid (HP_x.out.only ho (by omega))
      have HR_w1 := Lib.hid (HR_x.out.only ho (by omega))
      have HQ_w1 := Lib.hid (HQ_x.out.only ho (by omega))
      clear hd ho HS_x HP_x HR_x HQ_x; have cQ0 : w1.cell? ⟨Q, 0, none⟩ = some (.int .i64 p) := HQ_w1.out.cell 0
      have cQ1 : w1.cell? ⟨Q, 1, none⟩ = some (.int .i64 q) := HQ_w1.out.cell 1
      have cQ2 : w1.cell? ⟨Q, 2, none⟩ = some (.int .i64 r) := HQ_w1.out.cell 2
      have cQ3 : w1.cell? ⟨Q, 3, none⟩ = some (.int .i64 0) := HQ_w1.out.cell 3
      have fQ0 := HQ_w1.out.frozen 0; have fQ1 := HQ_w1.out.frozen 1; have fQ2 := HQ_w1.out.frozen 2; have fQ3 := HQ_w1.out.frozen 3; go_upto_region 3 with (fail)
      clear cQ0 cQ1 cQ2 cQ3 fQ0 fQ1 fQ2 fQ3; obtain ⟨w2, hw⟩ : ∃ X, X = w1.setCell ⟨Q, 3, none⟩ (.int .i64 (1 + a1)) := ⟨_, rfl⟩
      have HS_w2 := Lib.hid (show Sofar b w w2 from by rw [hw]; exact HS_w1.out.set lQ (by omega) _ _)
      have HP_w2 := Lib.hid (show Blk P #[.int .i64 g.days, .int .i64 g.slots, .int .i64 g.begin_, .int .i64 g.mins] 91 w2 from by rw [hw]; exact HP_w1.out.set_other (by omega) _ _)
      have HR_w2 := Lib.hid (show Blk R #[.int .i64 0, .int .i64 0, .int .i64 0, .int .i64 0] 108 w2 from by rw [hw]; exact HR_w1.out.set_other (by omega) _ _)
      have HQ_w2 := Lib.hid (show Blk Q #[.int .i64 p, .int .i64 q, .int .i64 r, .int .i64 (1 + a1)] 108 w2 from by rw [hw]; exact HQ_w1.out.set 3 _)
      rw [← hw]; clear hw HS_w1 HP_w1 HR_w1 HQ_w1; have cQ0 : w2.cell? ⟨Q, 0, none⟩ = some (.int .i64 p) := HQ_w2.out.cell 0
      have cQ1 : w2.cell? ⟨Q, 1, none⟩ = some (.int .i64 q) := HQ_w2.out.cell 1
      have cQ2 : w2.cell? ⟨Q, 2, none⟩ = some (.int .i64 r) := HQ_w2.out.cell 2
      have cQ3 : w2.cell? ⟨Q, 3, none⟩ = some (.int .i64 (1 + a1)) := HQ_w2.out.cell 3
      have cR0 : w2.cell? ⟨R, 0, none⟩ = some (.int .i64 0) := HR_w2.out.cell 0
      have cR1 : w2.cell? ⟨R, 1, none⟩ = some (.int .i64 0) := HR_w2.out.cell 1
      have cR2 : w2.cell? ⟨R, 2, none⟩ = some (.int .i64 0) := HR_w2.out.cell 2
      have cR3 : w2.cell? ⟨R, 3, none⟩ = some (.int .i64 0) := HR_w2.out.cell 3
      have fR0 := HR_w2.out.frozen 0; have fR1 := HR_w2.out.frozen 1; have fR2 := HR_w2.out.frozen 2; have fR3 := HR_w2.out.frozen 3; go_wp2_with fail
      obtain ⟨Y, hY, hBk, hE⟩ := fillS HR_w2.out HS_w2.out lR (by omega) [.int .i64 p, .int .i64 q, .int .i64 r, .int .i64 (1 + a1)] rfl
      simp only [setAll, Nat.zero_add] at hY
      rw [← hY]; clear cR0 cR1 cR2 cR3 fR0 fR1 fR2 fR3; clear hY; have r0 := hBk.cell 0; have r1 := hBk.cell 1; have r2 := hBk.cell 2; have r3 := hBk.cell 3; simp only [List.getElem?_toArray, List.getElem?_cons_zero, List.getElem?_cons_succ] at r0 r1 r2 r3
      refine bodyPost_ret (v := .agg #[.int .i64 p, .int .i64 q, .int .i64 r, .int .i64 (1 + a1)]) (by simp [results, Tryz.results76, go_sem, r0, r1, r2, r3]) rfl ?_
      exact ⟨⟨p, q, r, 1 + a1⟩, rfl, ⟨HPQ.out.2.2.1, HPQ.out.2.2.2, HPQ.out.1, HPQ.out.2.1, rr0, by show 1 ≤ 1 + a1; omega, by show r + (1 + a1) ≤ g.slots; omega⟩, hE⟩
    have hQQ := Lib.hid hQ; clear hQ; simp only [List.drop_succ_cons, List.drop_zero]
    go_wp2_with fail
    exact hQQ.out _ _ ⟨_, _, _, _, _, _, _, _, _, _, _, _, _, rfl, _, _, _, _, rfl, c11_0, c11_1, ⟨c11_2, c11_3, c11_4, c11_5⟩, c12_0, (((c12_1.set 0 _).set 1 _).set 2 _).set 3 _, (((HS.out.set c12_0 (by omega) 0 _).set c12_0 (by omega) 1 _).set c12_0 (by omega) 2 _).set c12_0 (by omega) 3 _⟩
set_option maxHeartbeats 8000000 in
set_option maxRecDepth 100000 in
theorem term61v (b : Nat) (w : World) (hd : Dice b w) : Calls Tryz.prog 37 #[.pointer (some ⟨b, 0, none⟩)] w fun e w' => ∃ (t : Tt.Trm) (v : Value), e = .returned (trmVal t v) ∧ RowI w.heap.size w' v t.hols ∧ t.hols.length ≤ 50 ∧ 2 ≤ t.first ∧ t.first ≤ 35002 ∧ 1 ≤ t.weeks ∧ t.weeks ≤ 8 ∧ Tt.trmV t = 0 ∧ Sofar b w w' := by
  obtain ⟨i0, hii, hz0, hz1, hz2⟩ := info_parts infoInt
  have hblt := hd.lt; obtain ⟨R, hR⟩ : ∃ g, g = w.heap.size := ⟨_, rfl⟩
  obtain ⟨w0, hw0⟩ : ∃ X, X = (w.alloc (.cells #[.int .i64 0, .int .i64 0, .slice none 0 0] 94)) := ⟨_, rfl⟩
  have HS_w0 := Lib.hid (show Sofar b w w0 from by rw [hw0]; exact ((Sofar.refl hd).alloc _))
  have HR_w0 := Lib.hid (show Blk R #[.int .i64 0, .int .i64 0, .slice none 0 0] 94 w0 from by rw [hw0, hR]; exact Blk.new' _ _ _ (by simp))
  have lR : w.heap.size ≤ R := by omega
  have bR : b < R := by omega
  go_enter Tryz.func37, Tryz.ntmps37
  go_upto_region 1 with (fail)
  rw [← hw0, ← hR]; clear hw0 hR; go_wp2_with fail
  refine (next_any b 5000 _ HS_w0.out.dice (by omega) (by omega)).mono ?_
  rintro e w1 ⟨a1, rfl, l1, u1, -, hd, ho⟩; have u1 := u1 (by omega)
  have HS_w1 := Lib.hid (HS_w0.out.only hd ho)
  have HR_w1 := Lib.hid (HR_w0.out.only ho (by omega))
  clear hd ho HS_w0 HR_w0; go_wp2_with fail
  refine (next_any b 8 _ HS_w1.out.dice (by omega) (by omega)).mono ?_
  rintro e w2 ⟨a2, rfl, l2, u2, -, hd, ho⟩; have u2 := u2 (by omega)
  have HS_w2 := Lib.hid (HS_w1.out.only hd ho)
  have HR_w2 := Lib.hid (HR_w1.out.only ho (by omega))
  clear hd ho HS_w1 HR_w1; obtain ⟨Q, hQ⟩ : ∃ g, g = w2.heap.size := ⟨_, rfl⟩
  obtain ⟨w3, hw⟩ : ∃ X, X = w2.alloc (.cells #[.int .i64 (2 + 7 * a1), .int .i64 (1 + a2), .slice none 0 0] 94) := ⟨_, rfl⟩
  have HS_w3 := Lib.hid (show Sofar b w w3 from by rw [hw]; exact HS_w2.out.alloc _)
  have HR_w3 := Lib.hid (show Blk R #[.int .i64 0, .int .i64 0, .slice none 0 0] 94 w3 from by rw [hw]; exact HR_w2.out.alloc _)
  have HQ_w3 := Lib.hid (show Blk Q #[.int .i64 (2 + 7 * a1), .int .i64 (1 + a2), .slice none 0 0] 94 w3 from by rw [hw, hQ]; exact Blk.new w2 _ _)
  have lQ : w.heap.size ≤ Q := by have := HS_w2.out.but.size; omega
  have nQR : Q ≠ R := by have := HR_w2.out.lt; omega
  go_upto_region 2 with (fail)
  rw [← hw, ← hQ]; clear hw hQ; clear HS_w2 HR_w2; obtain ⟨f, hf⟩ : ∃ f, f = 2 + 7 * a1 := ⟨_, rfl⟩
  obtain ⟨k, hk⟩ : ∃ k, k = 1 + a2 := ⟨_, rfl⟩
  rw [← hf, ← hk] at HQ_w3
  have hf0 : 2 ≤ f := by omega
  have hf1 : f ≤ 34995 := by omega
  have hk0 : 1 ≤ k := by omega
  have hk1 : k ≤ 8 := by omega
  have HFM := Lib.hid (show f = 2 + 7 * a1 ∧ 0 ≤ a1 ∧ a1 < 5000 from ⟨hf, l1, u1⟩)
  clear hf hk; have cQ0 : w3.cell? ⟨Q, 0, none⟩ = some (.int .i64 f) := HQ_w3.out.cell 0
  have cQ1 : w3.cell? ⟨Q, 1, none⟩ = some (.int .i64 k) := HQ_w3.out.cell 1
  have cQ2 : w3.cell? ⟨Q, 2, none⟩ = some (.slice none 0 0) := HQ_w3.out.cell 2
  go_wp2_with fail
  clear cQ0 cQ1 cQ2; refine (next_any b 5 _ HS_w3.out.dice (by omega) (by omega)).mono ?_
  rintro e w4 ⟨a4, rfl, l4, u4, -, hd, ho⟩; have u4 := u4 (by omega)
  have HS_w4 := Lib.hid (HS_w3.out.only hd ho)
  have HR_w4 := Lib.hid (HR_w3.out.only ho (by omega))
  have HQ_w4 := Lib.hid (HQ_w3.out.only ho (by omega))
  clear hd ho HS_w3 HR_w3 HQ_w3; have hbQ : b < Q := by omega
  have hwb : b < w.heap.size := hblt
  go_wp2_with fail
  go_loopw [4, 5] (fun dv nv wr => ∃ (d n : Int) (p : Option Addr) (c : Nat) (xs : List Int), dv = .int .i64 d ∧ nv = .int .i64 n ∧ 0 ≤ n ∧ n ≤ 4 ∧ 0 ≤ d ∧ d ≤ 100000 - 100 * n ∧ xs.length + n ≤ 5 ∧ Hid (Tt.HolP f k d xs) ∧ Hid (RowI w.heap.size wr (.slice p xs.length c) xs) ∧ Hid (Blk Q #[.int .i64 f, .int .i64 k, .slice p xs.length c] 94 wr) ∧ Hid (Blk R #[.int .i64 0, .int .i64 0, .slice none 0 0] 94 wr) ∧ Hid (Sofar b w wr)) (fun _ nv _ => (intOf nv).toNat)
  case atStart => exact ⟨f, a4, none, 0, [], rfl, rfl, by omega, by omega, by omega, by omega, by simp; omega, Lib.hid (Tt.HolP.start f k), Lib.hid (RowI.nil _ _), HQ_w4, HR_w4, HS_w4⟩
  case round =>
    obtain ⟨d, n, p, c, xs, rfl, rfl, hn0, hn1, hd0, hd1, hxl, HHP, HX, HQ_wr, HR_wr, HS_wr⟩ := hrel; have HXL := Lib.hid hxl; by_cases hpos : 0 < n
    rotate_left
    · obtain rfl : n = 0 := by omega
      have cQ0 : wr.cell? ⟨Q, 0, none⟩ = some (.int .i64 f) := HQ_wr.out.cell 0
      have cQ1 : wr.cell? ⟨Q, 1, none⟩ = some (.int .i64 k) := HQ_wr.out.cell 1
      have cQ2 : wr.cell? ⟨Q, 2, none⟩ = some (.slice p xs.length c) := HQ_wr.out.cell 2
      have cR0 : wr.cell? ⟨R, 0, none⟩ = some (.int .i64 0) := HR_wr.out.cell 0
      have cR1 : wr.cell? ⟨R, 1, none⟩ = some (.int .i64 0) := HR_wr.out.cell 1
      have cR2 : wr.cell? ⟨R, 2, none⟩ = some (.slice none 0 0) := HR_wr.out.cell 2
      have fR0 := HR_wr.out.frozen 0; have fR1 := HR_wr.out.frozen 1; have fR2 := HR_wr.out.frozen 2; go_wp2_with fail
      obtain ⟨Y, hY, hBk, hE⟩ := fillS HR_wr.out HS_wr.out lR (by omega) [.int .i64 f, .int .i64 k, .slice p xs.length c] rfl
      have HXF := Lib.hid (show RowI w.heap.size Y (.slice p xs.length c) xs from by rw [hY]; exact row_setAll (by decide) _ 0 _ _ HX.out HR_wr.out)
      simp only [setAll, Nat.zero_add] at hY
      rw [← hY]; clear cR0 cR1 cR2 fR0 fR1 fR2; clear hY; have r0 := hBk.cell 0; have r1 := hBk.cell 1; have r2 := hBk.cell 2; simp only [List.getElem?_toArray, List.getElem?_cons_zero, List.getElem?_cons_succ] at r0 r1 r2
      refine bodyPost_ret (v := .agg #[.int .i64 f, .int .i64 k, .slice p xs.length c]) (by simp [results, Tryz.results37, go_sem, r0, r1, r2]) rfl ?_
      exact ⟨⟨f, k, xs⟩, _, rfl, HXF.out, by show xs.length ≤ 50; omega, hf0, by show f ≤ 35002; omega, hk0, hk1, Tt.trm_ok HHP.out HFM.out.1 HFM.out.2.1 HFM.out.2.2 hk0 hk1 (by omega), hE⟩
    go_wp2_with fail
    refine (next_any b 20 _ HS_wr.out.dice (by omega) (by omega)).mono ?_
    rintro e w21 ⟨a21, rfl, l21, u21, -, hd, ho⟩; have u21 := u21 (by omega)
    have HS_w21 := Lib.hid (HS_wr.out.only hd ho)
    have HQ_w21 := Lib.hid (HQ_wr.out.only ho (by omega))
    have HR_w21 := Lib.hid (HR_wr.out.only ho (by omega))
    have HX1 := Lib.hid (show RowI w.heap.size w21 (.slice p xs.length c) xs from row_but HX.out hwb ho.but)
    clear hd ho HS_wr HQ_wr HR_wr; obtain ⟨dd, hdd⟩ : ∃ x, x = d + a21 := ⟨_, rfl⟩
    have hdd0 : 0 ≤ dd := by omega
    have hdd1 : dd ≤ 100000 - 100 * n + 20 := by omega
    by_cases hend : f + 7 * k ≤ d + a21
    · have cQ0 : w21.cell? ⟨Q, 0, none⟩ = some (.int .i64 f) := HQ_w21.out.cell 0
      have cQ1 : w21.cell? ⟨Q, 1, none⟩ = some (.int .i64 k) := HQ_w21.out.cell 1
      have cQ2 : w21.cell? ⟨Q, 2, none⟩ = some (.slice p xs.length c) := HQ_w21.out.cell 2
      have cR0 : w21.cell? ⟨R, 0, none⟩ = some (.int .i64 0) := HR_w21.out.cell 0
      have cR1 : w21.cell? ⟨R, 1, none⟩ = some (.int .i64 0) := HR_w21.out.cell 1
      have cR2 : w21.cell? ⟨R, 2, none⟩ = some (.slice none 0 0) := HR_w21.out.cell 2
      have fR0 := HR_w21.out.frozen 0; have fR1 := HR_w21.out.frozen 1; have fR2 := HR_w21.out.frozen 2; go_wp2_with fail
      obtain ⟨Y, hY, hBk, hE⟩ := fillS HR_w21.out HS_w21.out lR (by omega) [.int .i64 f, .int .i64 k, .slice p xs.length c] rfl
      have HXF := Lib.hid (show RowI w.heap.size Y (.slice p xs.length c) xs from by rw [hY]; exact row_setAll (by decide) _ 0 _ _ HX1.out HR_w21.out)
      simp only [setAll, Nat.zero_add] at hY
      rw [← hY]; clear cR0 cR1 cR2 fR0 fR1 fR2; clear hY; have r0 := hBk.cell 0; have r1 := hBk.cell 1; have r2 := hBk.cell 2; simp only [List.getElem?_toArray, List.getElem?_cons_zero, List.getElem?_cons_succ] at r0 r1 r2
      refine bodyPost_ret (v := .agg #[.int .i64 f, .int .i64 k, .slice p xs.length c]) (by simp [results, Tryz.results37, go_sem, r0, r1, r2]) rfl ?_
      exact ⟨⟨f, k, xs⟩, _, rfl, HXF.out, by show xs.length ≤ 50; omega, hf0, by show f ≤ 35002; omega, hk0, hk1, Tt.trm_ok HHP.out HFM.out.1 HFM.out.2.1 HFM.out.2.2 hk0 hk1 (by omega), hE⟩
    · have cQ0 : w21.cell? ⟨Q, 0, none⟩ = some (.int .i64 f) := HQ_w21.out.cell 0
      have cQ1 : w21.cell? ⟨Q, 1, none⟩ = some (.int .i64 k) := HQ_w21.out.cell 1
      have cQ2 : w21.cell? ⟨Q, 2, none⟩ = some (.slice p xs.length c) := HQ_w21.out.cell 2
      have fQ0 := HQ_w21.out.frozen 0; have fQ1 := HQ_w21.out.frozen 1; have fQ2 := HQ_w21.out.frozen 2; go_wp2_with (at_builtin; refine wpList_append_own_at _ rfl (.tmp 35) (.tmp 37) 22 rfl w.heap.size 3 i0 (.int .i64 0) 1 8 Tryz.underlying22 hii hz0 hz1 hz2 rfl (by decide) _ _ _ rfl (World.ownsRow.alloc HX1.out _) ⟨w21.heap.size, 0, none⟩ 1 1 [.int .i64 (d + a21)] rfl rfl (cell_one _ _ _) (by intro u hu; simp at hu; subst hu; rfl) (by unfold maxLen; omega) (by omega) (by have := HS_w21.out.but.size; simp; omega) ?_)
      intro v2 x8 hown8 hgrow _ hat; obtain ⟨p2, c2, hv2⟩ := ownsRow_len hown8
      subst hv2; clear cQ0 cQ1 cQ2 fQ0 fQ1 fQ2; have HQ8 := Lib.hid ((HQ_w21.out.alloc (.cells #[.int .i64 (d + a21)] 3)).grown (World.ownsRow.alloc HX1.out _) hgrow (by decide))
      have HR8 := Lib.hid ((HR_w21.out.alloc (.cells #[.int .i64 (d + a21)] 3)).grown (World.ownsRow.alloc HX1.out _) hgrow (by decide))
      have HS8 := Lib.hid ((HS_w21.out.alloc (.cells #[.int .i64 (d + a21)] 3)).grow (World.ownsRow.alloc HX1.out _) (Nat.le_refl _) hwb (by have := HS_w21.out.but.size; simp; omega) hgrow)
      have hX8 : RowI w.heap.size x8 (.slice p2 (xs.length + 1) c2) (xs ++ [d + a21]) := RowI.snoc hown8
      have fz : x8.frozen? ⟨Q, 2, none⟩ = false := HQ8.out.frozen 2
      have cz : x8.cell? ⟨Q, 2, none⟩ = some (.slice p xs.length c) := HQ8.out.cell 2
      have HX9 := Lib.hid (row_set hX8 HQ8.out (by decide) 2 (.slice p2 (xs.length + 1) c2))
      have HQ9 := Lib.hid (HQ8.out.set 2 (.slice p2 (xs.length + 1) c2))
      have HR9 := Lib.hid (HR8.out.set_other (show R ≠ Q by omega) 2 (.slice p2 (xs.length + 1) c2))
      have HS9 := Lib.hid (HS8.out.set lQ hbQ 2 (.slice p2 (xs.length + 1) c2))
      clear hX8 hown8 hgrow hat HQ8 HR8 HS8; go_wp2_with fail
      go_roundw
      case rel => exact ⟨d + a21 + 1, n - 1, p2, c2, xs ++ [d + a21], by go_num, by go_num, by omega, by omega, by omega, by omega, by simp; omega, Lib.hid (HHP.out.step (by omega) (by omega)), Lib.hid (by rw [List.length_append]; exact HX9.out), Lib.hid (by rw [List.length_append]; exact HQ9.out), HR9, HS9⟩
      case measure => simp [intOf]; omega
end Go.Proofs.YtcomifbfldoeiaaGreatDoor
