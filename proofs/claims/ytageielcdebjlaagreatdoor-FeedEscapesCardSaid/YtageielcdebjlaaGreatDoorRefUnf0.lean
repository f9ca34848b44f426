/- Plain facts for timetableref40.Unfold: one line's end in the reading of a text. No program in sight. Condition: none. -/
import Derived.Test.YtageielcdebjlaaGreatDoorBytes2
namespace Tt

theorem unf_start (l : List UInt8) (h : l ≠ []) : unf l = (chopGo [] l).bind (joinL []) := by unfold unf; rw [if_neg h]
theorem unf_line_first (cur r : List UInt8) (h : begins cur = true) : (chopGo cur (13 :: 10 :: r)).bind (joinL []) = none := by
  rw [chopGo_end]
  cases chopGo [] r with
  | none => rfl
  | some ls => show joinL [] (cur :: ls) = none; rw [joinL, if_pos h, if_pos rfl]
theorem unf_line_join (cur r : List UInt8) (out : List (List UInt8)) (h : begins cur = true) (ho : out ≠ []) : (chopGo cur (13 :: 10 :: r)).bind (joinL out) = (chopGo [] r).bind (joinL (out.dropLast ++ [out.getLastD [] ++ cur.tail])) := by
  rw [chopGo_end]
  cases chopGo [] r with
  | none => rfl
  | some ls => show joinL out (cur :: ls) = _; rw [joinL, if_pos h, if_neg ho]; rfl
theorem unf_line_new (cur r : List UInt8) (out : List (List UInt8)) (h : begins cur = false) : (chopGo cur (13 :: 10 :: r)).bind (joinL out) = (chopGo [] r).bind (joinL (out ++ [cur])) := by
  rw [chopGo_end]
  cases chopGo [] r with
  | none => rfl
  | some ls => show joinL out (cur :: ls) = _; rw [joinL, if_neg (by simp [h])]; rfl
theorem unf_done (out : List (List UInt8)) : (chopGo [] []).bind (joinL out) = some out := by rw [chopGo_nil, if_pos rfl]; show joinL out [] = _; rw [joinL]
theorem unf_rest (cur : List UInt8) (out : List (List UInt8)) (h : cur ≠ []) : (chopGo cur []).bind (joinL out) = none := by rw [chopGo_nil, if_neg h]; rfl
end Tt
