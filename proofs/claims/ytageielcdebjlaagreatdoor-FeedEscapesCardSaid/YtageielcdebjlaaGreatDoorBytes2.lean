/- More plain facts on lines: how pieces are joined one by one, and how long they are. -/
import Derived.Test.YtageielcdebjlaaGreatDoorBytes
namespace Tt

theorem joinL_append : ∀ (a b out : List (List UInt8)), joinL out (a ++ b) = (joinL out a).bind fun o => joinL o b
  | [], b, out => by simp [joinL]
  | l :: a, b, out => by
    rw [List.cons_append, joinL, joinL]
    split
    · split
      · rfl
      · exact joinL_append a b _
    · exact joinL_append a b _

theorem joinL_one (out : List (List UInt8)) (p : List UInt8) : joinL out [p] = if begins p then (if out = [] then none else some (out.dropLast ++ [out.getLastD [] ++ p.tail])) else some (out ++ [p]) := by
  rw [joinL]
  split
  · split
    · rfl
    · simp [joinL]
  · simp [joinL]

theorem joinL_next (ps : List (List UInt8)) (k : Nat) (p : List UInt8) (out : List (List UInt8)) (bl : List UInt8) (hp : ps[k]? = some p) (h : joinL [] (ps.take k) = some (out ++ [bl])) :
    joinL [] (ps.take (k + 1)) = some (if begins p then out ++ [bl ++ p.tail] else (out ++ [bl]) ++ [p]) := by
  obtain ⟨h1, h2⟩ := List.getElem?_eq_some_iff.1 hp
  rw [List.take_succ_eq_append_getElem h1, h2, joinL_append, h]
  show joinL (out ++ [bl]) [p] = _
  rw [joinL_one]
  split
  · rw [if_neg (by simp)]; simp
  · rfl

theorem joinL_first (ps : List (List UInt8)) (p : List UInt8) (hp : ps[0]? = some p) : joinL [] (ps.take 1) = if begins p then none else some [p] := by
  cases ps with
  | nil => simp at hp
  | cons a t =>
    simp at hp; subst hp
    show joinL [] [a] = _
    rw [joinL_one]; simp

/-- Where the first pieces cannot be joined all cannot. -/
theorem joinL_fails (ps : List (List UInt8)) (k : Nat) (h : joinL [] (ps.take k) = none) : joinL [] ps = none := by
  rw [← List.take_append_drop k ps, joinL_append, h]; rfl

theorem between_length : ∀ (ls : List (List UInt8)), ls ≠ [] → (between ls).length + 2 = ls.flatten.length + 2 * ls.length
  | [], h => absurd rfl h
  | [l], _ => by simp [between]
  | l :: m :: r, _ => by
    have := between_length (m :: r) (by simp)
    rw [between_cons, List.length_append, List.flatten_cons, List.length_append]
    simp only [crlf, List.length_append, List.length_cons, List.length_nil] at this ⊢
    omega

theorem split_length (s : List UInt8) : (Go.Lib.split s [13, 10]).flatten.length ≤ s.length ∧ (Go.Lib.split s [13, 10]).length ≤ s.length + 1 := by
  obtain ⟨h1, h2⟩ := split_joins s.length s (Nat.le_refl _)
  have h3 := between_length _ h2
  rw [h1] at h3
  have : 1 ≤ (Go.Lib.split s [13, 10]).length := List.length_pos_iff.2 h2
  omega

theorem flatten_drop (ps : List (List UInt8)) (k : Nat) (p : List UInt8) (hp : ps[k]? = some p) : (ps.drop k).flatten.length = p.length + (ps.drop (k + 1)).flatten.length := by
  obtain ⟨h1, h2⟩ := List.getElem?_eq_some_iff.1 hp
  rw [List.drop_eq_getElem_cons h1, h2, List.flatten_cons, List.length_append]

theorem begins_cons (c : UInt8) (r : List UInt8) : begins (c :: r) = (c == 32 || c == 9) := rfl

/-- What joined lines have to be taken for. -/
theorem unf_all (text t : List UInt8) (h : text = t ++ [13, 10]) (hc : ∀ (j : Nat) p, (Go.Lib.split t [13, 10])[j]? = some p → Clean p) : unf text = joinL [] (Go.Lib.split t [13, 10]) := by
  rw [unf_split text t h, if_pos]
  intro l hl
  obtain ⟨j, hj, e⟩ := List.mem_iff_getElem.1 hl
  exact hc j l (by rw [List.getElem?_eq_getElem hj, e])

theorem unf_not (text t : List UInt8) (h : text = t ++ [13, 10]) (j : Nat) (p : List UInt8) (hp : (Go.Lib.split t [13, 10])[j]? = some p) (hc : ¬ Clean p) : unf text = none := by
  rw [unf_split text t h, if_neg]
  intro ha
  exact hc (ha p (List.mem_of_getElem? hp))

theorem unf_stops (text t : List UInt8) (h : text = t ++ [13, 10]) (k : Nat) (hj : joinL [] ((Go.Lib.split t [13, 10]).take k) = none) : unf text = none := by
  rw [unf_split text t h]
  split
  · exact joinL_fails _ k hj
  · rfl

theorem suffix_cut (text : List UInt8) (h : Go.Lib.hasSuffix text [13, 10] = true) : text = Go.Lib.trimSuffix text [13, 10] ++ [13, 10] := by
  unfold Go.Lib.trimSuffix
  rw [if_pos h]
  unfold Go.Lib.hasSuffix at h
  rw [List.isSuffixOf_iff_suffix] at h
  obtain ⟨t, rfl⟩ := h
  simp
end Tt
