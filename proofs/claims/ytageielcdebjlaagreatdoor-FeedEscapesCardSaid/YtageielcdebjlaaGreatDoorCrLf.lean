/- strings.IndexAny and ContainsAny at the two bytes of a line's end, for every string. -/
import Derived.Test.YtageielcdebjlaaGreatDoorText
import Derived.Laws.Runes
import Derived.Laws.RangeAny
import Derived.Lib.OthersKept
import Derived.Deep.LoopGhost
import Derived.Outline
import Derived.WalkMore
namespace Go.Proofs.YtageielcdebjlaaGreatDoor
open Go.RowKit

theorem decode_valid (s : ByteArray) (pos : Nat) : Utf8.valid ((Utf8.decode s pos).1 : Nat) = true := by
  have hb : ∀ k, (s.get! (pos + k)).toNat < 256 := fun k => (s.get! (pos + k)).toNat_lt
  have h0 := hb 0; have h1 := hb 1; have h2 := hb 2; have h3 := hb 3
  simp only [Utf8.decode]
  repeat' split
  all_goals simp_all [Utf8.runeError, Utf8.valid]
  all_goals omega

theorem get_of (s : ByteArray) (k : Nat) (h : k < s.size) : s.get! k = s[k]'h := by
  simp [ByteArray.get!, getElem!_pos, h]
  rfl

/-- The bytes of a rune behind its first one are no ASCII. -/
theorem decode_cont (s : ByteArray) (pos j : Nat) (h1 : 1 ≤ j) (h2 : j < (Utf8.decode s pos).2) : ∃ h : pos + j < s.size, 128 ≤ (s[pos + j]'h).toNat := by
  have key : ∀ k, (pos + k < s.size ∧ (s.get! (pos + k)).toNat / 64 = 2) → ∃ h : pos + k < s.size, 128 ≤ (s[pos + k]'h).toNat := by
    rintro k ⟨a, b⟩
    refine ⟨a, ?_⟩
    rw [get_of s (pos + k) a] at b
    omega
  simp only [Utf8.decode] at h2
  apply key
  repeat' split at h2
  all_goals simp_all
  · obtain rfl : j = 1 := by omega
    simp_all
  · obtain rfl | rfl : j = 1 ∨ j = 2 := by omega
    all_goals simp_all
  · obtain rfl | rfl | rfl : j = 1 ∨ j = 2 ∨ j = 3 := by omega
    all_goals simp_all

set_option maxHeartbeats 4000000 in
set_option maxRecDepth 100000 in
/-- The sign of a fault isn't found in ASCII bytes. -/
theorem indexRune_fault (s : ByteArray) (ha : ∀ (j : Nat) (h : j < s.size), (s[j]'h).toNat < 128) (r : Nat) (h1 : r = 65533) (w : World) :
    Calls Tryz.prog 244 #[.string s, .int .i32 (r : Int)] w fun e w' => e = .returned (.int .i64 (-1)) ∧ Below w.heap.size w w' := by
  have HA := Lib.hid ha
  clear ha
  have hr0 : ¬ ((r : Int) < 128) := by omega
  have hr1 : (0 : Int) ≤ r := by omega
  have hq : ((r : Int) == 65533) = true := beq_iff_eq.2 (by omega)
  clear h1
  go_enter Tryz.func244, Tryz.ntmps244
  go_wp2_with fail
  go_loopg [5, 6] s.size (fun g _ _ wx => ∃ i : Nat, i + g = s.size ∧ wx = w.iter s i)
  case atStart => exact ⟨0, by omega, rfl⟩
  case round =>
    obtain ⟨i, hig, rfl⟩ := hrel
    cases gk with
    | zero =>
      obtain rfl : i = s.size := by omega
      have hnx := run_next_end (P := Tryz.prog) w s s.size
      go_wp2_with fail
      go_ret
      exact ⟨rfl, (Below.refl _ w).alloc (Nat.le_refl _) _⟩
    | succ g =>
      have hi : i < s.size := by omega
      have hx := HA.out i hi
      obtain ⟨x, hxx⟩ : ∃ x : UInt8, s[i]'hi = x := ⟨_, rfl⟩
      rw [hxx] at hx
      have hnx := fun ty => run_next_ascii (P := Tryz.prog) w s i ty hi (by rw [hxx]; exact hx)
      rw [hxx] at hnx
      clear hxx
      have hq2 : ((x.toNat : Int) == 65533) = false := beq_eq_false_iff_ne.2 (by omega)
      go_wp2_with fail
      go_roundg g
      case measure => omega
      case rel => exact ⟨i + 1, by omega, rfl⟩

end Go.Proofs.YtageielcdebjlaaGreatDoor
