/- strings.IndexRune at a rune that is no ASCII, in two ASCII bytes. -/
import Derived.Test.YtageielcdebjlaaGreatDoorCrLf
import Derived.WalkMore
namespace Go.Proofs.YtageielcdebjlaaGreatDoor
open Go.RowKit

theorem validRune_of (r : Nat) (hv : Utf8.valid (r : Int) = true) : Lib.validRune (r : Int) = true := by
  unfold Lib.validRune
  unfold Utf8.valid at hv
  simp at hv ⊢
  omega

set_option maxHeartbeats 4000000 in
set_option maxRecDepth 100000 in
theorem indexRune_long (s E : ByteArray) (hs : s.size ≤ 2) (r : Nat) (hr : 128 ≤ r) (hr2 : r ≤ 2147483647) (hn : ¬ r = 65533) (hv : Lib.validRune (r : Int) = true) (hE : Utf8.encode (r : Int) = E) (h3 : 3 ≤ E.size) (h4 : E.size ≤ 4) (w : World) :
    Calls Tryz.prog 244 #[.string s, .int .i32 (r : Int)] w fun e w' => e = .returned (.int .i64 (-1)) ∧ Below w.heap.size w w' := by
  have hr0 : ¬ ((r : Int) < 128) := by omega
  have hr1 : (0 : Int) ≤ r := by omega
  have hq : ((r : Int) == 65533) = false := beq_eq_false_iff_ne.2 (by omega)
  have HV := Lib.hid hv
  clear hn hv
  go_enter Tryz.func244, Tryz.ntmps244
  go_wp2_with fail
  refine (Tryz.utf8_ValidRune _ _).mono ?_
  rintro e w' ⟨rfl, rfl⟩
  rw [HV.out]
  go_wp2_with fail
  go_step3
  go_wp2_with fail
  go_loopg [9, 10] 0 (fun _ a b wx => a = .int .i64 ((E.size : Int) - 1) ∧ b = .int .i64 0 ∧ wx = w')
  case atStart => exact ⟨rfl, rfl, rfl⟩
  case round =>
    obtain ⟨rfl, rfl, rfl⟩ := hrel
    have hge : ¬ ((E.size : Int) - 1 < (s.size : Int)) := by omega
    go_wp2_with fail
    go_ret
    exact ⟨rfl, Below.refl _ _⟩

set_option maxHeartbeats 4000000 in
set_option maxRecDepth 100000 in
theorem indexRune_two (s E : ByteArray) (hs : s.size ≤ 2) (hs2 : 2 ≤ s.size) (r : Nat) (hr : 128 ≤ r) (hr2 : r ≤ 2147483647) (hn : ¬ r = 65533) (hv : Lib.validRune (r : Int) = true) (hE : Utf8.encode (r : Int) = E) (h3 : E.size = 2) (w : World)
    (x y : UInt8) (hx : ∀ h : 1 < s.size, s[1]'h = x) (hy : ∀ h : 1 < E.size, E[1]'h = y) (hne : ((x.toNat : Int) != (y.toNat : Int)) = true) :
    Calls Tryz.prog 244 #[.string s, .int .i32 (r : Int)] w fun e w' => e = .returned (.int .i64 (-1)) ∧ ∃ n, w' = w.drewN n := by
  have hr0 : ¬ ((r : Int) < 128) := by omega
  have hr1 : (0 : Int) ≤ r := by omega
  have hq : ((r : Int) == 65533) = false := beq_eq_false_iff_ne.2 (by omega)
  have HV := Lib.hid hv
  have HX := Lib.hid hx
  have HY := Lib.hid hy
  have HNE := Lib.hid hne
  clear hn hv hx hy hne
  go_enter Tryz.func244, Tryz.ntmps244
  go_wp2_with fail
  refine (Tryz.utf8_ValidRune _ _).mono ?_
  rintro e w' ⟨rfl, rfl⟩
  rw [HV.out]
  go_wp2_with fail
  go_step3
  go_wp2_with fail
  go_loopg [9, 10] 0 (fun _ a b wx => a = .int .i64 1 ∧ b = .int .i64 0 ∧ wx = w')
  case atStart => exact ⟨rfl, rfl, rfl⟩
  case round =>
    obtain ⟨rfl, rfl, rfl⟩ := hrel
    have hge : (1 : Int) < (s.size : Int) := by omega
    go_wp2_with fail
    go_step3
    go_wp2_with fail
    have hx1 := HX.out (by omega)
    have hy1 := HY.out (by omega)
    have hne := HNE.out
    have hg2 : 1 < s.size := by omega
    have hg3 : (1 : Int) < (E.size : Int) := by omega
    have hg4 : 1 < E.size := by omega
    go_quiet (fail)
    go_wp2_with fail
    have hw1 : IntKind.i64.wrap (2 : Int) = 2 := by rw [IntKind.wrap_i64]; rfl
    clear hx1 hne
    have hz1 : (2 : Int) ≤ (s.size : Int) := by omega
    generalize hw2 : wr.drewN nq = w2
    have HW := Lib.hid hw2
    clear hw2
    have HC : ∀ W, Calls Tryz.prog 303 #[.string (s.extract 2 s.size), .int .u8 (y.toNat : Int)] W fun e w' => e = .returned (.int .i64 (-1)) ∧ w' = W := fun W => by
      have h := Tryz.strings_IndexByte (s.extract 2 s.size) (y.toNat : Int) W
      have hib : Lib.indexByte (s.extract 2 s.size).data.toList ((y.toNat : Int)).toNat.toUInt8 = -1 := by
        rw [Lib.extract_to_end, List.drop_eq_nil_of_le (by rw [← Lib.size_eq]; omega)]; rfl
      rw [hib] at h
      exact h
    have HCC := Lib.hid HC
    clear HC
    go_quiet ((go_at_call 303; exact Calls.quiet_of_same (HCC.out _)))
    clear hw1 hg3 hz1 hge hy1 hE
    go_wp2_with fail
    rw [Exit.noGoto_ret]
    try simp only [Exit.inBlock, Exit.then]
    rw [Exit.noGoto_ret]
    go_ret
    exact ⟨rfl, _, by rw [← HW.out, World.drewN_drewN]⟩
end Go.Proofs.YtageielcdebjlaaGreatDoor
