/- The generators' dice: contracts of Mod, Next, One: an oracle that keeps the dice in memory. -/
import Derived.Test.YtageielcdebjlaaGreatDoorProg
import Derived.WalkKit
import Derived.Lib.Hide
import Derived.Deep.QuietTactic
import Derived.BigQuiet
namespace Go.Proofs.YtageielcdebjlaaGreatDoor
open Go.RowKit

/-- Go's made.Mod. -/
def modI (n m : Int) : Int := if m < 1 then 0 else n % m

theorem tmod_neg_lt (n m : Int) (hm : 1 ≤ m) : -m < n.tmod m ∧ n.tmod m < m := by
  have h1 := Int.lt_tmod_of_pos n (show 0 < m by omega)
  have h2 := Int.tmod_lt_of_pos n (show 0 < m by omega)
  exact ⟨h1, h2⟩

theorem modI_of_tmod (n m : Int) (hm : 1 ≤ m) : modI n m = if n.tmod m < 0 then n.tmod m + m else n.tmod m := by
  unfold modI
  rw [if_neg (by omega)]
  have h := tmod_neg_lt n m hm; have e : n % m = (n.tmod m) % m := by
    have := Int.tmod_add_mul_tdiv n m
    conv => lhs; rw [← this]
    rw [Int.add_mul_emod_self_left]
  rw [e]
  split
  · rw [← Int.add_emod_right]; exact Int.emod_eq_of_lt (by omega) (by omega)
  · exact Int.emod_eq_of_lt (by omega) (by omega)

theorem ret_int {k : IntKind} {a b : Int} (h : a = b) : Ending.returned (.int k a) = .returned (.int k b) := by rw [h]

theorem addr_add_block (a : Addr) (i : Nat) : (a.add i).block = a.block := by unfold Addr.add; split <;> rfl

set_option maxHeartbeats 400000 in
theorem mod_any (n m : Int) (w : World) (hm : m ≤ 9223372036854775807) :
    Calls Tryz.prog 31 #[.int .i64 n, .int .i64 m] w fun e w' => e = .returned (.int .i64 (modI n m)) ∧ w' = w := by
  by_cases h : m < 1
  · go_enter Tryz.func31, Tryz.ntmps31
    go_wp2
    go_ret; exact ⟨by simp [modI, h], rfl⟩
  · have hb := tmod_neg_lt n m (by omega)
    have H := Lib.hid (modI_of_tmod n m (by omega))
    by_cases h2 : n.tmod m < 0
    · go_enter Tryz.func31, Tryz.ntmps31
      go_wp2
      go_ret; exact ⟨ret_int (by rw [H.out, if_pos h2]), rfl⟩
    · go_enter Tryz.func31, Tryz.ntmps31
      go_wp2
      go_ret; exact ⟨ret_int (by rw [H.out, if_neg (by omega)]), rfl⟩

theorem modI_lo (n m : Int) : 0 ≤ modI n m := by
  unfold modI; split
  · omega
  · exact Int.emod_nonneg _ (by omega)
theorem modI_hi (n m : Int) (h : 1 ≤ m) : modI n m < m := by
  unfold modI; rw [if_neg (by omega)]; exact Int.emod_lt_of_pos _ (by omega)
theorem modI_le (n m k : Int) (h : m ≤ k) (hk : 0 ≤ k) : modI n m ≤ k := by
  by_cases h1 : 1 ≤ m
  · have := modI_hi n m h1; omega
  · unfold modI; rw [if_pos (by omega)]; exact hk

/-- The dice in block b: the list of numbers, and how many are used. -/
structure DiceAt (b : Nat) (w : World) (ao : Option Addr) (len cap k : Nat) : Prop where
  heap : w.heap[b]? = some (.cells #[.slice ao len cap, .int .i64 k] 124 (0, 0))
  used : k ≤ len
  few : len ≤ 400
  cell : ∀ i, i < len → ∃ a n, ao = some a ∧ a.block < b ∧ w.cell? (a.add i) = some (.int .i64 n) ∧ -9223372036854775808 ≤ n ∧ n ≤ 9223372036854775807

def Dice (b : Nat) (w : World) : Prop := ∃ ao len cap k, DiceAt b w ao len cap k

theorem Dice.lt {b : Nat} {w : World} (h : Dice b w) : b < w.heap.size := by
  obtain ⟨ao, len, cap, k, h⟩ := h; exact (Array.getElem?_eq_some_iff.1 h.heap).1

/-- What is behind a call that may have written block b alone, and made new blocks. -/
theorem Dice.kept {b : Nat} {w w' : World} {B : Nat} (h : Dice b w) (hb : b < B) (hw : Below B w w') : Dice b w' := by
  obtain ⟨ao, len, cap, k, h⟩ := h; refine ⟨ao, len, cap, k, ⟨(hw.block b hb).trans h.heap, h.used, h.few, fun i hi => ?_⟩⟩
  obtain ⟨a, n, ha, hlt, hc, hn⟩ := h.cell i hi
  exact ⟨a, n, ha, hlt, (hw.cell (p := a.add i) (by rw [addr_add_block]; omega)).trans hc, hn⟩

/-- The world behind a call of the dice: block b alone is another. -/
def Only (b : Nat) (w w' : World) : Prop := w'.os = w.os ∧ w'.tape = w.tape ∧ w'.output = w.output ∧ w'.heap.size = w.heap.size ∧ ∀ k, k ≠ b → w'.heap[k]? = w.heap[k]?

theorem Only.refl (b : Nat) (w : World) : Only b w w := ⟨rfl, rfl, rfl, rfl, fun _ _ => rfl⟩
theorem Only.trans {b : Nat} {w1 w2 w3 : World} (h : Only b w1 w2) (k : Only b w2 w3) : Only b w1 w3 :=
  ⟨k.1.trans h.1, k.2.1.trans h.2.1, k.2.2.1.trans h.2.2.1, k.2.2.2.1.trans h.2.2.2.1, fun i hi => (k.2.2.2.2 i hi).trans (h.2.2.2.2 i hi)⟩
theorem Only.below {b B : Nat} {w w' : World} (h : Only b w w') (hB : B ≤ b) : Below B w w' :=
  ⟨h.1, h.2.1, h.2.2.1, by rw [h.2.2.2.1]; exact Nat.le_refl _, fun k hk => h.2.2.2.2 k (by omega)⟩

set_option maxHeartbeats 1000000 in
theorem next_any (b : Nat) (n : Int) (w : World) (hd : Dice b w) (hn : -9223372036854775808 ≤ n) (hn2 : n ≤ 9223372036854775807) :
    Calls Tryz.prog 21 #[.pointer (some ⟨b, 0, none⟩), .int .i64 n] w fun e w' => ∃ v : Int, e = .returned (.int .i64 v) ∧ 0 ≤ v ∧ (1 ≤ n → v < n) ∧ v ≤ 9223372036854775807 ∧ Dice b w' ∧ Only b w w' := by
  obtain ⟨ao, len, cap, k, h⟩ := hd; have c0 : w.cell? ⟨b, 0, none⟩ = some (.slice ao len cap) := by simp [World.cell?, h.heap]
  have c1 : w.cell? ⟨b, 1, none⟩ = some (.int .i64 (k : Int)) := by simp [World.cell?, h.heap]
  have f1 : w.frozen? ⟨b, 1, none⟩ = false := by simp [World.frozen?, h.heap]
  have hu := h.used; have hf := h.few; by_cases hk : len ≤ k
  · go_enter Tryz.func21, Tryz.ntmps21
    go_wp2_with fail
    go_quiet (fail)
    go_wp2_with fail
    go_ret; exact ⟨0, rfl, by omega, fun h => by omega, by omega, ⟨ao, len, cap, k, ⟨by simpa using h.heap, h.used, h.few, h.cell⟩⟩, ⟨rfl, rfl, rfl, rfl, fun _ _ => rfl⟩⟩
  · obtain ⟨a, x, rfl, hlt, hc, hx⟩ := h.cell k (by omega)
    have hb0 : ¬ a.block = b := by omega
    have hne : ∀ i, (⟨b, 1, none⟩ : Addr) ≠ a.add i := fun i e => hb0 (by rw [← addr_add_block a i, ← e])
    have hc' : (w.setCell ⟨b, 1, none⟩ (.int .i64 (k + 1))).cell? (a.add k) = some (.int .i64 x) := by
      rw [World.cell?_setCell_other _ _ _ _ (hne k)]; exact hc
    go_enter Tryz.func21, Tryz.ntmps21
    go_wp2_with fail
    go_quiet (fail)
    go_wp2_with fail
    go_quiet ((go_at_call 31; exact Calls.quiet_of_same (mod_any _ _ _ (by omega))))
    go_wp2_with fail
    go_ret; refine ⟨modI x n, rfl, modI_lo _ _, modI_hi _ _, ?_, ?_, ?_⟩
    · exact modI_le x n _ (by omega) (by omega)
    · refine ⟨some a, len, cap, k + 1, ⟨?_, by omega, hf, ?_⟩⟩
      · simp [World.setCell, Array.getElem?_modify, h.heap]
      · intro i hi; obtain ⟨a', n', e, h1, h2, h3⟩ := h.cell i hi
        cases e
        refine ⟨a, n', rfl, h1, ?_, h3⟩
        simp only [World.cell?_drewN]
        rw [World.cell?_setCell_other _ _ _ _ (hne i)]; exact h2
    · refine ⟨rfl, rfl, rfl, by simp [World.setCell], fun j hj => ?_⟩
      simp [World.setCell, Array.getElem?_modify, Ne.symm hj]

set_option maxHeartbeats 400000 in
theorem one_any (b : Nat) (n : Int) (w : World) (hd : Dice b w) (hn : -9223372036854775807 ≤ n) (hn2 : n ≤ 9223372036854775807) :
    Calls Tryz.prog 22 #[.pointer (some ⟨b, 0, none⟩), .int .i64 n] w fun e w' => ∃ v : Bool, e = .returned (.bool v) ∧ Dice b w' ∧ Only b w w' := by
  go_enter Tryz.func22, Tryz.ntmps22
  go_wp2_with fail
  refine (next_any b n _ hd (by omega) hn2).mono ?_
  rintro e w1 ⟨v, rfl, h0, h1, h2, h3, h4⟩; go_wp2_with fail
  go_ret; exact ⟨_, rfl, h3, h4⟩

#print axioms one_any
end Go.Proofs.YtageielcdebjlaaGreatDoor
