/- A published timetable's error: plain functions. No program in sight. The least week of a set: math/bits.TrailingZeros, the reference's low. -/
import Derived.Test.YtcomifbfldoeiaaGreatDoorPk16
import Derived.Test.YtcomifbfldoeiaaGreatDoorPk11
import Derived.Test.YtcomifbfldoeiaaGreatDoorPk15
import Derived.Shelf.Spec.TrailingZeros
namespace Go.Proofs.YtcomifbfldoeiaaGreatDoor
open Go.RowKit

/-- The least week of a set, from 1 on. -/
def lowW (s : Ses) : Int := (Tt.lowB s.tim.weeks 20 0 : Nat) + 1
/-- Does a session come before another one? -/
def befB (a b : Ses) : Bool := lessU a.cls b.cls || (decide (a.cls = b.cls) && decide (lowW a < lowW b))
/-- The error of the first session that has one. -/
def sesL (n : Int) : List Ses → Int
  | [] => 0
  | s :: r => if sesE s n ≠ 0 then sesE s n else sesL n r
def ordB : List Ses → Bool
  | a :: b :: r => befB a b && ordB (b :: r)
  | _ => true
def twiceB (a b : Ses) : Bool := meetB a b || likeB a b
/-- Does one of a list meet one ahead of it? -/
def dupB : List Ses → List Ses → Bool
  | _, [] => false
  | pre, s :: r => pre.any (twiceB s) || dupB (pre ++ [s]) r
/-- The error of a published timetable. -/
def chgV (l : List Ses) (n : Int) : Int :=
  if n < 1 ∨ 20 < n then 3 else if 96 < (l.length : Int) then 2 else if sesL n l ≠ 0 then sesL n l else if ordB l = false then 63 else if dupB [] l = true then 11 else 0
theorem sesL_step (n : Int) (l : List Ses) (k : Nat) (s : Ses) (h : l[k]? = some s) : sesL n (l.drop k) = if sesE s n ≠ 0 then sesE s n else sesL n (l.drop (k + 1)) := by
  obtain ⟨h1, h2⟩ := List.getElem?_eq_some_iff.1 h
  rw [List.drop_eq_getElem_cons h1, h2]; rfl
theorem sesL_each (n : Int) : ∀ (l : List Ses), sesL n l = 0 → ∀ s ∈ l, sesE s n = 0
  | [], _, s, hs => by cases hs
  | a :: r, h, s, hs => by
    rw [sesL] at h
    split at h
    · rename_i g; exact absurd h g
    · rename_i g
      rcases List.mem_cons.1 hs with rfl | hs
      · simpa using g
      · exact sesL_each n r h s hs
theorem ordB_step (l : List Ses) (k : Nat) (a b : Ses) (h : l[k]? = some a) (h2 : l[k + 1]? = some b) : ordB (l.drop k) = (befB a b && ordB (l.drop (k + 1))) := by
  obtain ⟨g1, g2⟩ := List.getElem?_eq_some_iff.1 h
  obtain ⟨g3, g4⟩ := List.getElem?_eq_some_iff.1 h2
  rw [List.drop_eq_getElem_cons g1, g2, List.drop_eq_getElem_cons g3, g4]; rfl
theorem ordB_end (l : List Ses) (k : Nat) (h : l.length ≤ k + 1) : ordB (l.drop k) = true := by
  rcases Nat.lt_or_ge k l.length with h1 | h1
  · rw [List.drop_eq_getElem_cons h1, List.drop_eq_nil_of_le h]; rfl
  · rw [List.drop_eq_nil_of_le h1]; rfl
theorem dupB_step (l : List Ses) (k : Nat) (s : Ses) (h : l[k]? = some s) : dupB (l.take k) (l.drop k) = ((l.take k).any (twiceB s) || dupB (l.take (k + 1)) (l.drop (k + 1))) := by
  obtain ⟨g1, g2⟩ := List.getElem?_eq_some_iff.1 h
  rw [List.drop_eq_getElem_cons g1, g2, dupB, List.take_add_one, h]; rfl
theorem any_step (p : Ses → Bool) (l : List Ses) (i k : Nat) (s : Ses) (h : l[k]? = some s) (hk : k < i) : ((l.take i).drop k).any p = (p s || ((l.take i).drop (k + 1)).any p) := by
  obtain ⟨g1, g2⟩ := List.getElem?_eq_some_iff.1 h
  have hl : k < (l.take i).length := by rw [List.length_take]; omega
  rw [List.drop_eq_getElem_cons hl, List.getElem_take, g2, List.any_cons]
theorem sesE_low {s : Ses} {n : Int} (h : sesE s n = 0) : Tt.weeksB s.tim.weeks 20 = true := by
  unfold sesE at h
  split at h
  · cases h
  · split at h
    · cases h
    · rename_i g
      have g2 : (Tt.soundB s.tim && Tt.weeksB s.tim.weeks n) = true := by simpa using g
      rw [Bool.and_eq_true] at g2
      exact ((Tt.soundB_iff _).1 g2.1).1
end Go.Proofs.YtcomifbfldoeiaaGreatDoor
namespace Tt
theorem low_ctz (W : Nat) : ∀ (n k f : Nat), n ≤ f → 0 < W / 2 ^ k → W / 2 ^ k < 2 ^ n → lowB (W : Int) n k = k + Go.Lib.ctzFrom f (W / 2 ^ k)
  | 0, k, f, _, h0, h1 => by rw [Nat.pow_zero] at h1; omega
  | n + 1, k, 0, hf, _, _ => by omega
  | n + 1, k, f + 1, hf, h0, h1 => by
    have hb : bit (W : Int) (k : Nat) = decide (W / 2 ^ k % 2 = 1) := by
      unfold bit
      rw [Int.toNat_natCast]
      have e : ((W : Int) / 2 ^ k % 2 = 1) ↔ (W / 2 ^ k % 2 = 1) := by
        have e1 : (W : Int) / 2 ^ k = ((W / 2 ^ k : Nat) : Int) := by
          rw [Int.natCast_ediv, Int.natCast_pow]; rfl
        rw [e1]; omega
      simp only [e]
    rw [lowB, Go.Lib.ctzFrom, hb]
    by_cases hc : W / 2 ^ k % 2 = 1
    · rw [if_pos (decide_eq_true hc), if_pos hc]; omega
    · rw [if_neg (by simpa using hc), if_neg hc]
      have e2 : W / 2 ^ k / 2 = W / 2 ^ (k + 1) := by rw [Nat.div_div_eq_div_mul, Nat.pow_succ]
      have hp : 2 ^ (n + 1) = 2 * 2 ^ n := by rw [Nat.pow_succ]; omega
      rw [e2, low_ctz W n (k + 1) f (by omega) (by rw [← e2]; omega) (by rw [← e2]; omega)]
      omega
theorem low_of_ctz {w : Int} (h : weeksB w 20 = true) : Go.Lib.ctz 64 w.toNat = lowB w 20 0 := by
  obtain ⟨h0, h1⟩ := weeks_bd h
  have e : (w.toNat : Int) = w := Int.toNat_of_nonneg (by omega)
  unfold Go.Lib.ctz
  rw [if_neg (by omega)]
  have := low_ctz w.toNat 20 0 64 (by omega) (by simp; omega) (by simp; omega)
  rw [e] at this
  rw [this]; simp
end Tt
namespace Go.Proofs.YtcomifbfldoeiaaGreatDoor
open Go.RowKit

/-- The table of math/bits. -/
def Tz (w : World) : Prop := TabAt 2 Lib.deBruijn64tab w
theorem Tz.below {w w' : World} (h : Tz w) (h6 : 6 < w.heap.size) (hb : Below w.heap.size w w') : Tz w' := fun j hj => (hb.cell (p := ⟨2, j, none⟩) (by show 2 < _; omega)).trans (h j hj)
set_option maxHeartbeats 4000000 in
set_option maxRecDepth 100000 in
theorem tz_core (x k idx : Nat) (w : World) (hx0 : ((x : Int) == 0) = false)
    (key : IntKind.u64.wrap (bits BinOp.and IntKind.u64 (x : Int) (IntKind.u64.wrap (-(x : Int))) * 285870213051353865) / 288230376151711744 = (idx : Int))
    (hi : idx < 64) (hk : k < 64) (hcell : w.cell? ⟨2, idx, none⟩ = some (.int .u8 k)) :
    Calls Tryz.prog 260 #[.int .u64 x] w fun e w' => e = .returned (.int .i64 k) ∧ w' = w := by
  go_enter Tryz.func260, Tryz.ntmps260
  go_wp2_with (simp only [key])
  go_ret; exact ⟨rfl, rfl⟩
theorem tz322 (x : Nat) (w : World) (hx : x < 18446744073709551616) (hx0 : x ≠ 0) (hT : Tz w) : Calls Tryz.prog 260 #[.int .u64 x] w fun e w' => e = .returned (.int .i64 (Lib.ctz 64 x)) ∧ w' = w := by
  obtain ⟨hlow, hk⟩ := Lib.lowest_bit 64 x hx0 hx
  obtain ⟨hi, htab⟩ := Lib.deBruijn64_at _ hk
  have hcell := hT _ hi; rw [htab] at hcell
  exact tz_core x _ _ w (by simp; omega) (tz64_key x _ hx hx0 hlow) hi hk hcell
set_option maxHeartbeats 4000000 in
set_option maxRecDepth 100000 in
theorem tz269 (x : Nat) (w : World) (hx : x < 18446744073709551616) (hx0 : x ≠ 0) (hT : Tz w) : Calls Tryz.prog 201 #[.int .u64 x] w fun e w' => e = .returned (.int .i64 (Lib.ctz 64 x)) ∧ w' = w := by
  have H := Lib.hid (tz322 x w hx hx0 hT)
  clear hT; go_enter Tryz.func201, Tryz.ntmps201
  go_wp2_with fail
  refine H.out.mono ?_
  rintro e w1 ⟨rfl, hw⟩; rw [hw]
  clear hw w1; go_wp2_with fail
  go_ret; exact ⟨rfl, rfl⟩
/-- The order of two texts, as a number. -/
def cmpS (a b : ByteArray) : Int := if Op.bytesLess a.toList b.toList = true then -1 else if (a.toList == b.toList) = true then 0 else 1
set_option maxHeartbeats 4000000 in
set_option maxRecDepth 100000 in
theorem cmp267 (a b : ByteArray) (w : World) : Calls Tryz.prog 199 #[.string a, .string b] w fun e w' => e = .returned (.int .i64 (cmpS a b)) ∧ w' = w := by
  have N : ∀ (s : ByteArray), Calls Tryz.prog 257 #[.string s] w fun e w' => e = .returned (.bool false) ∧ w' = w := by
    intro s; go_enter Tryz.func257, Tryz.ntmps257
    go_wp2_with fail
    go_ret; exact ⟨by simp, rfl⟩
  have HN := Lib.hid N; clear N; obtain ⟨x, hx⟩ : ∃ x, Op.bytesLess a.toList b.toList = x := ⟨_, rfl⟩
  obtain ⟨y, hy⟩ : ∃ y, (a.toList == b.toList) = y := ⟨_, rfl⟩
  have HR := Lib.hid (show cmpS a b = if x = true then -1 else if y = true then 0 else 1 from by unfold cmpS; rw [hx, hy])
  go_enter Tryz.func199, Tryz.ntmps199
  go_wp2_with fail
  refine (HN.out a).mono ?_
  rintro e w1 ⟨rfl, hw⟩; rw [hw]
  clear hw w1; go_wp2_with fail
  refine (HN.out b).mono ?_
  rintro e w1 ⟨rfl, hw⟩; rw [hw]
  clear hw w1; cases x
  · cases y
    · go_wp2_with fail
      go_ret; exact ⟨by rw [HR.out]; rfl, rfl⟩
    · go_wp2_with fail
      go_ret; exact ⟨by rw [HR.out]; rfl, rfl⟩
  · go_wp2_with fail
    go_ret; exact ⟨by rw [HR.out]; rfl, rfl⟩
set_option maxHeartbeats 4000000 in
set_option maxRecDepth 100000 in
theorem or266 (g : Nat) (x y : Int) (w : World) (h : Blk g #[.int .i64 x, .int .i64 y] 3 w) : Calls Tryz.prog 198 #[.slice (some ⟨g, 0, none⟩) 2 2] w fun e w' => e = .returned (.int .i64 (if x ≠ 0 then x else y)) ∧ w' = w := by
  have c0 : w.cell? ⟨g, 0, none⟩ = some (.int .i64 x) := h.cell 0
  have c1 : w.cell? ⟨g, 1, none⟩ = some (.int .i64 y) := h.cell 1
  clear h; by_cases hx : x = 0
  · subst hx; by_cases hy : y = 0
    · subst hy; go_enter Tryz.func198, Tryz.ntmps198
      go_wp2_with fail
      go_loop [5, 8] (fun _ iv => ∃ k : Nat, iv = .int .i64 k ∧ k ≤ 2) (fun _ iv => 2 - (intOf iv).toNat)
      case atStart => exact ⟨0, rfl, by omega⟩
      case round =>
        obtain ⟨k, rfl, hk⟩ := hrel; rcases (show k = 0 ∨ k = 1 ∨ k = 2 by omega) with rfl | rfl | rfl
        · go_wp2_with fail
          go_round
          case rel => exact ⟨1, by go_num, by omega⟩
          case measure => simp [intOf]
        · go_wp2_with fail
          go_round
          case rel => exact ⟨2, by go_num, by omega⟩
          case measure => simp [intOf]
        · go_wp2_with fail
          go_ret; exact ⟨rfl, rfl⟩
    · have hb : (y != 0) = true := by simpa using hy
      have hb2 : (y == 0) = false := by simpa using hy
      have HE := Lib.hid (show (if (0 : Int) ≠ 0 then (0 : Int) else y) = y from if_neg (by simp))
      go_enter Tryz.func198, Tryz.ntmps198
      go_wp2_with fail
      go_loop [5, 8] (fun _ iv => ∃ k : Nat, iv = .int .i64 k ∧ k ≤ 1) (fun _ iv => 2 - (intOf iv).toNat)
      case atStart => exact ⟨0, rfl, by omega⟩
      case round =>
        obtain ⟨k, rfl, hk⟩ := hrel; rcases (show k = 0 ∨ k = 1 by omega) with rfl | rfl
        · go_wp2_with fail
          go_round
          case rel => exact ⟨1, by go_num, by omega⟩
          case measure => simp [intOf]
        · go_wp2_with fail
          go_ret; exact ⟨by first | rfl | rw [HE.out], rfl⟩
  · have hb : (x != 0) = true := by simpa using hx
    have hb2 : (x == 0) = false := by simpa using hx
    have HE := Lib.hid (show (if x ≠ 0 then x else y) = x from if_pos hx)
    go_enter Tryz.func198, Tryz.ntmps198
    go_wp2_with fail
    go_loop [5, 8] (fun _ iv => iv = .int .i64 0) (fun _ iv => 2 - (intOf iv).toNat)
    case atStart => rfl
    case round =>
      subst hrel; go_wp2_with fail
      go_ret; exact ⟨by first | (rw [HE.out]; done) | (rw [HE.out]; rfl) | rfl, rfl⟩
end Go.Proofs.YtcomifbfldoeiaaGreatDoor
