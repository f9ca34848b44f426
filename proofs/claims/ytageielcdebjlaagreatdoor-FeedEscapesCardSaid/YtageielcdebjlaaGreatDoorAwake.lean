/- The law's awake: its contract. -/
import Derived.Test.YtageielcdebjlaaGreatDoorParse
namespace Go.Proofs.YtageielcdebjlaaGreatDoor
open Go.RowKit

/-- The name 'a', the zone 'z', the text of that feed. -/
def nA : ByteArray := ⟨#[97]⟩
def nZ : ByteArray := ⟨#[122]⟩
def awakeText : List UInt8 := [66, 69, 71, 73, 78, 58, 86, 67, 65, 76, 69, 78, 68, 65, 82, 13, 10, 86, 69, 82, 83, 73, 79, 78, 58, 50, 46, 48, 13, 10, 80, 82, 79, 68, 73, 68, 58, 45, 47, 47, 116, 105, 109, 101, 116, 97, 98, 108, 101, 47, 47, 69, 78, 13, 10, 78, 65, 77, 69, 58, 97, 13, 10, 82, 69, 86, 73, 83, 73, 79, 78, 58, 48, 13, 10, 69, 78, 68, 58, 86, 67, 65, 76, 69, 78, 68, 65, 82, 13, 10]

theorem dig0 : Lib.decDigits 0 = [48] := by unfold Lib.decDigits; simp
theorem atoi0 : Lib.atoi (Lib.decDigits 0) = some ((0 : Nat) : Int) := by rw [dig0]; decide
theorem codeA : Tt.code nA.data.toList = true := by decide
theorem codeZ : Tt.code nZ.data.toList = true := by decide
theorem folds0 : (lines0 nA 0).flatMap (fun l => Tt.fold l.data.toList) = awakeText := by
  unfold lines0; rw [dig0]; decide
theorem unf0 : Tt.unf awakeText = some ((lines0 nA 0).map (·.data.toList)) := by
  unfold lines0; rw [dig0]; decide
theorem sizes0 : ∀ x ∈ lines0 nA 0, x.size ≤ 100000 := by
  unfold lines0; rw [dig0]; intro x hx
  simp only [List.mem_cons, List.not_mem_nil, or_false] at hx
  rcases hx with rfl | rfl | rfl | rfl | rfl | rfl
  all_goals decide
theorem esc0 : Tt.esc [97, 44, 98] = [97, 92, 44, 98] := by decide

theorem format_awake (w : World) : Calls Tryz.prog 48 #[.agg #[.string nA, .int .i64 0, .slice none 0 0], .string nZ] w fun e w' => e = .returned (.tuple #[.string (str awakeText), .int .i64 0]) ∧ Below w.heap.size w w' := by
  have := format_none nA nZ 0 codeA codeZ (by decide) (by decide) (by rw [dig0]; decide) sizes0 (by rw [folds0]; decide) w
  rw [folds0] at this
  exact this
theorem parse_awake (w : World) (m : Int) (hm : w.cell? ⟨0, 0, none⟩ = some (.int .i64 m)) (h0 : 0 < w.heap.size) : Calls Tryz.prog 50 #[.string (str awakeText), .string nZ] w fun e w' => e = .returned (.tuple #[.agg #[.string nA, .int .i64 0, .slice none 0 0], .int .i64 0]) ∧ Below w.heap.size w w' :=
  parse_none (str awakeText) nA nZ 0 (by decide) codeA codeZ (by decide) (by decide) (by rw [dig0]; decide) atoi0 unf0 w m hm h0
theorem escape_awake (w : World) : Calls Tryz.prog 39 #[.string ⟨#[97, 44, 98]⟩] w fun e w' => e = .returned (.string ⟨#[97, 92, 44, 98]⟩) ∧ Below w.heap.size w w' := by
  have := escape_any ⟨#[97, 44, 98]⟩ w (by decide)
  refine this.mono ?_
  rintro e w' ⟨h1, h2⟩
  refine ⟨?_, h2⟩
  rw [h1]
  exact ret_str esc0
theorem awakeText_list : ((str awakeText).toList == awakeText) = true := by rw [Lib.toList_data]; exact beq_self_eq_true _
theorem nA_list : (nA.toList == [97]) = true := by rw [Lib.toList_data]; decide

set_option maxHeartbeats 4000000 in
set_option maxRecDepth 100000 in
theorem awake_any (w : World) (m : Int) (hm : w.cell? ⟨0, 0, none⟩ = some (.int .i64 m)) (h0 : 0 < w.heap.size) :
    Calls Tryz.prog 33 #[] w fun e w' => e = .returned (.bool true) ∧ Below w.heap.size w w' := by
  go_enter Tryz.func33, Tryz.ntmps33
  go_wp2_with fail
  refine (format_awake w).mono ?_
  rintro e w1 ⟨rfl, hb1⟩
  have hm1 := (hb1.cell (p := ⟨0, 0, none⟩) h0).trans hm
  have h01 : 0 < w1.heap.size := Nat.lt_of_lt_of_le h0 hb1.size
  have s1 := hb1.size
  clear hm
  go_wp2_with fail
  refine (parse_awake w1 m hm1 h01).mono ?_
  rintro e w2 ⟨rfl, hb2⟩
  have s2 := hb2.size
  have hA := nA_list
  go_wp2_with fail
  refine (escape_awake _).mono ?_
  rintro e w3 ⟨rfl, hb3⟩
  go_wp2_with fail
  go_ret
  refine ⟨?_, ?_⟩
  · show Ending.returned (.bool ((str awakeText).toList == awakeText)) = _
    rw [awakeText_list]
  · exact (((hb1.trans (hb2.mono s1)).alloc (by omega) _).trans (hb3.mono (by simp; omega)))
end Go.Proofs.YtageielcdebjlaaGreatDoor
