/- Plain facts on texts of a calendar: how a text is escaped and read back, how a line is folded, what a text is unfolded to. No program in sight. Condition: none. -/
import Derived.Lib.Split
namespace Tt

/-- One byte, escaped. -/
def escB (c : UInt8) : List UInt8 := if c = 92 ∨ c = 59 ∨ c = 44 then [92, c] else if c = 10 then [92, 110] else [c]
def esc (l : List UInt8) : List UInt8 := l.flatMap escB

/-- An escaped text, read back. -/
def unesc : List UInt8 → Option (List UInt8)
  | [] => some []
  | c :: r =>
    if c = 59 ∨ c = 44 ∨ c = 10 then none
    else if c = 92 then
      match r with
      | [] => none
      | d :: r' => if d = 92 ∨ d = 59 ∨ d = 44 then (unesc r').map (d :: ·) else if d = 110 ∨ d = 78 then (unesc r').map (10 :: ·) else none
    else (unesc r).map (c :: ·)

theorem esc_cons (c : UInt8) (r : List UInt8) : esc (c :: r) = escB c ++ esc r := by simp [esc]

theorem unesc_nil : unesc [] = some [] := by unfold unesc; rfl
theorem unesc_bad (c : UInt8) (r : List UInt8) (h : c = 59 ∨ c = 44 ∨ c = 10) : unesc (c :: r) = none := by rw [unesc.eq_def]; simp only; rw [if_pos h]
theorem unesc_end : unesc [92] = none := by rw [unesc.eq_def]; rfl
theorem unesc_same (d : UInt8) (r : List UInt8) (h : d = 92 ∨ d = 59 ∨ d = 44) : unesc (92 :: d :: r) = (unesc r).map (d :: ·) := by
  rw [unesc.eq_def]; simp only; rw [if_neg (by decide)]; simp only [if_true]; rw [if_pos h]
theorem unesc_feed (d : UInt8) (r : List UInt8) (h : d = 110 ∨ d = 78) : unesc (92 :: d :: r) = (unesc r).map (10 :: ·) := by
  rw [unesc.eq_def]; simp only; rw [if_neg (by decide)]; simp only [if_true]; rw [if_neg (by rcases h with rfl | rfl <;> decide), if_pos h]
theorem unesc_wrong (d : UInt8) (r : List UInt8) (h : ¬ (d = 92 ∨ d = 59 ∨ d = 44)) (h2 : ¬ (d = 110 ∨ d = 78)) : unesc (92 :: d :: r) = none := by
  rw [unesc.eq_def]; simp only; rw [if_neg (by decide)]; simp only [if_true]; rw [if_neg h, if_neg h2]
theorem unesc_plain (c : UInt8) (r : List UInt8) (h : ¬ (c = 59 ∨ c = 44 ∨ c = 10)) (h2 : c ≠ 92) : unesc (c :: r) = (unesc r).map (c :: ·) := by
  rw [unesc.eq_def]; simp only; rw [if_neg h, if_neg h2]

theorem unesc_esc (l : List UInt8) : unesc (esc l) = some l := by
  induction l with
  | nil => exact unesc_nil
  | cons c r ih =>
    rw [esc_cons]
    unfold escB
    by_cases h : c = 92 ∨ c = 59 ∨ c = 44
    · rw [if_pos h]
      show unesc (92 :: c :: esc r) = _
      rw [unesc_same c _ h, ih]; rfl
    · rw [if_neg h]
      by_cases h2 : c = 10
      · rw [if_pos h2]
        show unesc (92 :: 110 :: esc r) = _
        rw [unesc_feed 110 _ (.inl rfl), ih, h2]; rfl
      · rw [if_neg h2]
        show unesc (c :: esc r) = _
        rw [unesc_plain c _ (by intro e; rcases e with e | e | e <;> simp_all) (fun e => h (.inl e)), ih]; rfl

theorem escB_length (c : UInt8) : (escB c).length ≤ 2 := by
  unfold escB; split
  · simp
  · split <;> simp

theorem esc_length (l : List UInt8) : (esc l).length ≤ 2 * l.length := by
  induction l with
  | nil => simp [esc]
  | cons c r ih => rw [esc_cons, List.length_append]; have := escB_length c; simp; omega

theorem unesc_length : ∀ (n : Nat) (l x : List UInt8), l.length ≤ n → unesc l = some x → x.length ≤ l.length
  | _, [], x, _, h => by rw [unesc_nil] at h; simp at h; subst h; simp
  | 0, c :: r, _, hn, _ => by simp at hn
  | n + 1, c :: r, x, hn, h => by
    simp only [List.length_cons] at hn
    by_cases h1 : c = 59 ∨ c = 44 ∨ c = 10
    · rw [unesc_bad c r h1] at h; cases h
    · by_cases h2 : c = 92
      · subst h2
        cases r with
        | nil => rw [unesc_end] at h; cases h
        | cons d r' =>
          simp only [List.length_cons] at hn
          by_cases h3 : d = 92 ∨ d = 59 ∨ d = 44
          · rw [unesc_same d r' h3] at h
            obtain ⟨y, hy, rfl⟩ := Option.map_eq_some_iff.1 h
            have := unesc_length n r' y (by omega) hy
            simp; omega
          · by_cases h4 : d = 110 ∨ d = 78
            · rw [unesc_feed d r' h4] at h
              obtain ⟨y, hy, rfl⟩ := Option.map_eq_some_iff.1 h
              have := unesc_length n r' y (by omega) hy
              simp; omega
            · rw [unesc_wrong d r' h3 h4] at h; cases h
      · rw [unesc_plain c r h1 h2] at h
        obtain ⟨y, hy, rfl⟩ := Option.map_eq_some_iff.1 h
        have := unesc_length n r y (by omega) hy
        simp; omega

/-! ### Lines -/

/-- The lines of a text, cut behind each end; 'cur': what has been read of the line. -/
def chopGo : List UInt8 → List UInt8 → Option (List (List UInt8))
  | cur, [] => if cur = [] then some [] else none
  | cur, c :: r =>
    if c = 10 then none
    else if c = 13 then
      match r with
      | [] => none
      | d :: r' => if d = 10 then (chopGo [] r').map (cur :: ·) else none
    else chopGo (cur ++ [c]) r

def begins (l : List UInt8) : Bool := match l with
  | [] => false
  | c :: _ => c == 32 || c == 9

/-- Lines that continue the one before are joined to it. -/
def joinL : List (List UInt8) → List (List UInt8) → Option (List (List UInt8))
  | out, [] => some out
  | out, l :: r => if begins l then (if out = [] then none else joinL (out.dropLast ++ [out.getLastD [] ++ l.tail]) r) else joinL (out ++ [l]) r

def unf (text : List UInt8) : Option (List (List UInt8)) := if text = [] then none else (chopGo [] text).bind (joinL [])

def Clean (l : List UInt8) : Prop := ∀ c ∈ l, c ≠ 13 ∧ c ≠ 10
instance (l : List UInt8) : Decidable (Clean l) := by unfold Clean; infer_instance

def crlf (l : List UInt8) : List UInt8 := l ++ [13, 10]

theorem chopGo_nil (cur : List UInt8) : chopGo cur [] = if cur = [] then some [] else none := by rw [chopGo.eq_def]
theorem chopGo_feed (cur r : List UInt8) : chopGo cur (10 :: r) = none := by rw [chopGo.eq_def]; rfl
theorem chopGo_cut (cur : List UInt8) : chopGo cur [13] = none := by rw [chopGo.eq_def]; rfl
theorem chopGo_end (cur r : List UInt8) : chopGo cur (13 :: 10 :: r) = (chopGo [] r).map (cur :: ·) := by rw [chopGo.eq_def]; simp
theorem chopGo_lone (cur r : List UInt8) (d : UInt8) (h : d ≠ 10) : chopGo cur (13 :: d :: r) = none := by rw [chopGo.eq_def]; simp [h]
theorem chopGo_plain (cur r : List UInt8) (c : UInt8) (h : c ≠ 13) (h2 : c ≠ 10) : chopGo cur (c :: r) = chopGo (cur ++ [c]) r := by rw [chopGo.eq_def]; simp [h, h2]

theorem chopGo_clean (l : List UInt8) (h : Clean l) : ∀ (cur r : List UInt8), chopGo cur (crlf l ++ r) = (chopGo [] r).map ((cur ++ l) :: ·) := by
  induction l with
  | nil => intro cur r; show chopGo cur (13 :: 10 :: r) = _; rw [chopGo_end]; simp
  | cons c t ih =>
    intro cur r
    have hc := h c (by simp)
    show chopGo cur (c :: (crlf t ++ r)) = _
    rw [chopGo_plain _ _ _ hc.1 hc.2, ih (fun x hx => h x (by simp [hx]))]
    simp

theorem chopGo_lines : ∀ (ls : List (List UInt8)), (∀ l ∈ ls, Clean l) → ∀ r, chopGo [] (ls.flatMap crlf ++ r) = (chopGo [] r).map (ls ++ ·)
  | [], _, r => by simp
  | l :: ls, h, r => by
    rw [List.flatMap_cons, List.append_assoc, chopGo_clean l (h l (by simp)), chopGo_lines ls (fun x hx => h x (by simp [hx]))]
    simp [Option.map_map, Function.comp_def]

theorem chopGo_some : ∀ (n : Nat) (t cur : List UInt8) (ls : List (List UInt8)), t.length ≤ n → chopGo cur t = some ls → Clean cur →
    (ls = [] ∧ t = [] ∧ cur = []) ∨ ∃ l rest, ls = (cur ++ l) :: rest ∧ Clean (cur ++ l) ∧ (∀ x ∈ rest, Clean x) ∧ t = crlf l ++ rest.flatMap crlf
  | _, [], cur, ls, _, h, _ => by
    rw [chopGo_nil] at h
    split at h
    · rename_i hc
      exact .inl ⟨by simpa using h.symm, rfl, hc⟩
    · cases h
  | 0, _ :: _, _, _, hn, _, _ => by simp at hn
  | n + 1, c :: r, cur, ls, hn, h, hcl => by
    simp only [List.length_cons] at hn
    by_cases h10 : c = 10
    · subst h10; rw [chopGo_feed] at h; cases h
    · by_cases h13 : c = 13
      · subst h13
        cases r with
        | nil => rw [chopGo_cut] at h; cases h
        | cons d r' =>
          by_cases hd : d = 10
          · subst hd
            rw [chopGo_end] at h
            obtain ⟨y, hy, rfl⟩ := Option.map_eq_some_iff.1 h
            simp only [List.length_cons] at hn
            rcases chopGo_some n r' [] y (by omega) hy (by simp [Clean]) with ⟨rfl, rfl, _⟩ | ⟨l, rest, rfl, k1, k2, rfl⟩
            · exact .inr ⟨[], [], by simp, by simpa using hcl, by simp, by simp [crlf]⟩
            · refine .inr ⟨[], l :: rest, by simp, by simpa using hcl, ?_, by simp [crlf]⟩
              intro x hx
              rcases List.mem_cons.1 hx with rfl | hx
              · simpa using k1
              · exact k2 x hx
          · rw [chopGo_lone _ _ _ hd] at h; cases h
      · have hcl' : Clean (cur ++ [c]) := by
          intro x hx
          rcases List.mem_append.1 hx with hx | hx
          · exact hcl x hx
          · simp at hx; subst hx; exact ⟨h13, h10⟩
        rw [chopGo_plain _ _ _ h13 h10] at h
        rcases chopGo_some n r (cur ++ [c]) ls (by omega) h hcl' with ⟨_, _, e⟩ | ⟨l, rest, rfl, k1, k2, rfl⟩
        · simp at e
        · exact .inr ⟨c :: l, rest, by simp, by simpa using k1, k2, by simp [crlf]⟩

theorem chop_iff (t : List UInt8) (ls : List (List UInt8)) : chopGo [] t = some ls ↔ (∀ l ∈ ls, Clean l) ∧ t = ls.flatMap crlf := by
  constructor
  · intro h
    rcases chopGo_some t.length t [] ls (Nat.le_refl _) h (by simp [Clean]) with ⟨rfl, rfl, _⟩ | ⟨l, rest, rfl, k1, k2, rfl⟩
    · simp
    · refine ⟨?_, by simp⟩
      intro x hx
      rcases List.mem_cons.1 hx with rfl | hx
      · exact k1
      · exact k2 x hx
  · rintro ⟨h, rfl⟩
    have := chopGo_lines ls h []
    simpa [chopGo_nil] using this

/-! ### Split at the ends -/
open Go.Lib

theorem occ_clean (l r : List UInt8) (h : Clean l) (j : Nat) (hj : j < l.length) : occAt (l ++ r) [13, 10] j = false := by
  unfold occAt
  rw [List.drop_append_of_le_length (by omega)]
  cases e : l.drop j with
  | nil => simp at e; omega
  | cons c t =>
    have hc : c ∈ l := List.mem_of_mem_drop (i := j) (by rw [e]; simp)
    have := (h c hc).1
    simp [List.isPrefixOf]
    intro e; exact absurd e.symm this

theorem index_clean (l r : List UInt8) (h : Clean l) : index (crlf l ++ r) [13, 10] = l.length := by
  refine index_first (by simp [crlf]) ?_ ?_
  · unfold occAt crlf; simp
  · intro j hj
    have := occ_clean l ([13, 10] ++ r) h j hj
    simpa [crlf] using this

theorem index_alone (l : List UInt8) (h : Clean l) : index l [13, 10] = -1 := by
  refine index_none ?_
  intro j hj
  by_cases e : j < l.length
  · have := occ_clean l [] h j e
    simpa using this
  · have : j = l.length := by omega
    subst this
    simp [occAt]

/-- Lines with ends between them. -/
def between : List (List UInt8) → List UInt8
  | [] => []
  | [l] => l
  | l :: r => crlf l ++ between r

theorem between_cons (l m : List UInt8) (r : List (List UInt8)) : between (l :: m :: r) = crlf l ++ between (m :: r) := rfl

theorem between_crlf : ∀ (ls : List (List UInt8)), ls ≠ [] → between ls ++ [13, 10] = ls.flatMap crlf
  | [], h => absurd rfl h
  | [l], _ => by simp [between, crlf]
  | l :: m :: r, _ => by rw [between_cons, List.append_assoc, between_crlf (m :: r) (by simp)]; simp

theorem split_between : ∀ (ls : List (List UInt8)), ls ≠ [] → (∀ l ∈ ls, Clean l) → split (between ls) [13, 10] = ls
  | [], h, _ => absurd rfl h
  | [l], _, hc => by
    have hi := index_alone l (hc l (by simp))
    unfold split between
    rw [count_miss hi]; rfl
  | l :: m :: r, _, hc => by
    have hi := index_clean l (between (m :: r)) (hc l (by simp))
    have ih := split_between (m :: r) (by simp) (fun x hx => hc x (by simp [hx]))
    rw [between_cons]
    unfold split
    have hd : (crlf l ++ between (m :: r)).drop (l.length + 2) = between (m :: r) := by
      rw [List.drop_append_of_le_length (by simp [crlf])]; simp [crlf]
    rw [count_hit (by simp) hi, show [(13 : UInt8), 10].length = 2 from rfl, hd, Nat.add_comm 1, splitK, if_neg (by rw [hi]; simp), hi]
    unfold split at ih
    rw [show [(13 : UInt8), 10].length = 2 from rfl, Int.toNat_natCast, hd, ih]
    simp [crlf]

theorem split_joins : ∀ (k : Nat) (s : List UInt8), s.length ≤ k → between (split s [13, 10]) = s ∧ split s [13, 10] ≠ []
  | k, s, hk => by
    rcases index_spec s [13, 10] with ⟨hi, _⟩ | ⟨i, hi, hle, hocc, _⟩
    · unfold split
      rw [count_miss hi]
      exact ⟨rfl, by simp [splitK]⟩
    · have hroom : i + 2 ≤ s.length := by
        rcases occAt_room hocc with h | h
        · simpa using h
        · simp at h
      cases k with
      | zero => omega
      | succ k =>
        have ih := split_joins k (s.drop (i + 2)) (by simp; omega)
        have htake : (s.drop i).take 2 = [13, 10] := by
          have := occAt_iff_take s [13, 10] i (by simpa using hroom)
          rw [hocc] at this
          simpa using this.symm
        have he : split s [13, 10] = s.take i :: split (s.drop (i + 2)) [13, 10] := by
          unfold split
          rw [count_hit (by simp) hi, Nat.add_comm 1, splitK, if_neg (by rw [hi]; simp), hi]
          simp
        rw [he]
        refine ⟨?_, by simp⟩
        obtain ⟨m, r, e⟩ : ∃ m r, split (s.drop (i + 2)) [13, 10] = m :: r := by
          cases h : split (s.drop (i + 2)) [13, 10] with
          | nil => exact absurd h ih.2
          | cons m r => exact ⟨m, r, rfl⟩
        have ih1 := ih.1
        rw [e] at ih1 ⊢
        rw [between_cons, ih1, crlf, ← htake, List.append_assoc]
        have : s.drop (i + 2) = (s.drop i).drop 2 := by rw [List.drop_drop]
        rw [this, List.take_append_drop, List.take_append_drop]

/-- What a text is unfolded to, by the pieces between the ends. -/
theorem unf_split (text t : List UInt8) (h : text = t ++ [13, 10]) : unf text = if (∀ l ∈ split t [13, 10], Clean l) then joinL [] (split t [13, 10]) else none := by
  have hne : text ≠ [] := by subst h; simp
  have hj := split_joins t.length t (Nat.le_refl _)
  have ht : text = (split t [13, 10]).flatMap crlf := by rw [← between_crlf _ hj.2, hj.1, h]
  unfold unf
  rw [if_neg hne]
  by_cases hc : ∀ l ∈ split t [13, 10], Clean l
  · rw [if_pos hc, (chop_iff text _).2 ⟨hc, ht⟩]; rfl
  · rw [if_neg hc]
    cases hch : chopGo [] text with
    | none => rfl
    | some ls =>
      obtain ⟨k1, k2⟩ := (chop_iff text ls).1 hch
      have hls : ls ≠ [] := by
        intro e; subst e; simp at k2; exact hne k2
      have hb : between ls = t := by
        have e1 : between ls ++ [13, 10] = t ++ [13, 10] := by rw [between_crlf ls hls, ← k2, h]
        exact List.append_cancel_right e1
      exact absurd (by rw [← hb, split_between ls hls k1]; exact k1) hc

theorem unf_no_end (text : List UInt8) (h : hasSuffix text [13, 10] = false) : unf text = none := by
  unfold unf
  split
  · rfl
  · rename_i hne
    cases hch : chopGo [] text with
    | none => rfl
    | some ls =>
      obtain ⟨k1, k2⟩ := (chop_iff text ls).1 hch
      have hls : ls ≠ [] := by
        intro e; subst e; simp at k2; exact hne k2
      rw [← between_crlf ls hls] at k2
      rw [k2] at h
      have : hasSuffix (between ls ++ [13, 10]) [13, 10] = true := by unfold hasSuffix; rw [List.isSuffixOf_iff_suffix]; exact List.suffix_append _ _
      rw [this] at h; cases h

/-! ### Folding -/

def chunk : Nat → Nat → List UInt8 → List (List UInt8)
  | 0, _, l => [l]
  | f + 1, n, l => if n < l.length then l.take n :: chunk f 74 (l.drop n) else [l]

def foldGo : Nat → Nat → List UInt8 → List UInt8
  | 0, _, l => l ++ [13, 10]
  | f + 1, n, l => if n < l.length then l.take n ++ [13, 10, 32] ++ foldGo f 74 (l.drop n) else l ++ [13, 10]
def fold (l : List UInt8) : List UInt8 := foldGo l.length 75 l

theorem foldGo_fuel : ∀ (f g n : Nat) (l : List UInt8), 1 ≤ n → l.length ≤ f → l.length ≤ g → foldGo f n l = foldGo g n l
  | 0, 0, _, _, _, _, _ => rfl
  | 0, g + 1, n, l, _, hf, _ => by rw [foldGo, foldGo, if_neg (by omega)]
  | f + 1, 0, n, l, _, _, hg => by rw [foldGo, foldGo, if_neg (by omega)]
  | f + 1, g + 1, n, l, hn, hf, hg => by
    rw [foldGo, foldGo]
    split
    · rw [foldGo_fuel f g 74 (l.drop n) (by omega) (by simp; omega) (by simp; omega)]
    · rfl

theorem foldGo_step (f n : Nat) (l : List UInt8) (hn : 1 ≤ n) (hf : l.length ≤ f) (h : n < l.length) : foldGo f n l = l.take n ++ [13, 10, 32] ++ foldGo (l.drop n).length 74 (l.drop n) := by
  cases f with
  | zero => omega
  | succ f =>
    rw [foldGo, if_pos h]
    rw [foldGo_fuel f (l.drop n).length 74 _ (by omega) (by simp; omega) (Nat.le_refl _)]

theorem foldGo_end (f n : Nat) (l : List UInt8) (h : ¬ n < l.length) : foldGo f n l = l ++ [13, 10] := by
  cases f with
  | zero => rfl
  | succ f => rw [foldGo, if_neg h]

/-- The lines that a chunked line lies in. -/
def linesOf : List (List UInt8) → List (List UInt8)
  | [] => []
  | c :: cs => c :: cs.map (32 :: ·)

theorem chunk_ne (f n : Nat) (l : List UInt8) : ∃ c cs, chunk f n l = c :: cs := by
  cases f with
  | zero => exact ⟨_, _, rfl⟩
  | succ f => rw [chunk]; split <;> exact ⟨_, _, rfl⟩

theorem foldGo_chunk : ∀ (f n : Nat) (l : List UInt8), foldGo f n l = (linesOf (chunk f n l)).flatMap crlf
  | 0, n, l => by simp [foldGo, chunk, linesOf, crlf]
  | f + 1, n, l => by
    rw [foldGo, chunk]
    split
    · obtain ⟨c, cs, e⟩ := chunk_ne f 74 (l.drop n)
      rw [foldGo_chunk f 74, e]
      simp [linesOf, crlf]
    · simp [linesOf, crlf]

theorem chunk_flatten : ∀ (f n : Nat) (l : List UInt8), (chunk f n l).flatten = l
  | 0, n, l => by simp [chunk]
  | f + 1, n, l => by
    rw [chunk]
    split
    · rw [List.flatten_cons, chunk_flatten f 74, List.take_append_drop]
    · simp

theorem chunk_clean : ∀ (f n : Nat) (l : List UInt8), Clean l → ∀ c ∈ chunk f n l, Clean c
  | 0, n, l, h, c, hc => by simp [chunk] at hc; subst hc; exact h
  | f + 1, n, l, h, c, hc => by
    rw [chunk] at hc
    split at hc
    · rcases List.mem_cons.1 hc with rfl | hc
      · intro x hx; exact h x (List.mem_of_mem_take hx)
      · exact chunk_clean f 74 (l.drop n) (fun x hx => h x (List.mem_of_mem_drop hx)) c hc
    · simp at hc; subst hc; exact h

/-- The first piece has at most n bytes, the others at most 74. -/
theorem chunk_short : ∀ (f n : Nat) (l : List UInt8), 1 ≤ n → l.length ≤ f → ∀ c cs, chunk f n l = c :: cs → c.length ≤ n ∧ ∀ x ∈ cs, x.length ≤ 74
  | 0, n, l, _, hf, c, cs, e => by
    simp [chunk] at e
    obtain ⟨rfl, rfl⟩ := e
    exact ⟨by omega, by simp⟩
  | f + 1, n, l, hn, hf, c, cs, e => by
    rw [chunk] at e
    split at e
    · obtain ⟨c', cs', e'⟩ := chunk_ne f 74 (l.drop n)
      have ih := chunk_short f 74 (l.drop n) (by omega) (by simp; omega) c' cs' e'
      simp only [List.cons.injEq] at e
      obtain ⟨rfl, rfl⟩ := e
      refine ⟨by simp; omega, ?_⟩
      rw [e']
      intro x hx
      rcases List.mem_cons.1 hx with rfl | hx
      · exact ih.1
      · exact ih.2 x hx
    · simp only [List.cons.injEq] at e
      obtain ⟨rfl, rfl⟩ := e
      exact ⟨by omega, by simp⟩

theorem linesOf_clean (cs : List (List UInt8)) (h : ∀ c ∈ cs, Clean c) : ∀ c ∈ linesOf cs, Clean c := by
  cases cs with
  | nil => simp [linesOf]
  | cons a t =>
    intro c hc
    rcases List.mem_cons.1 hc with rfl | hc
    · exact h c (by simp)
    · obtain ⟨x, hx, rfl⟩ := List.mem_map.1 hc
      intro y hy
      rcases List.mem_cons.1 hy with rfl | hy
      · decide
      · exact h x (by simp [hx]) y hy

theorem joinL_more : ∀ (cs : List (List UInt8)) (out : List (List UInt8)) (l : List UInt8) (r : List (List UInt8)),
    joinL (out ++ [l]) (cs.map (32 :: ·) ++ r) = joinL (out ++ [l ++ cs.flatten]) r
  | [], out, l, r => by simp
  | c :: cs, out, l, r => by
    show joinL (out ++ [l]) ((32 :: c) :: (cs.map (32 :: ·) ++ r)) = _
    rw [joinL, if_pos (by simp [begins]), if_neg (by simp)]
    have e : (out ++ [l]).dropLast ++ [(out ++ [l]).getLastD [] ++ (32 :: c).tail] = out ++ [l ++ c] := by simp
    rw [e, joinL_more cs out (l ++ c) r]
    simp

theorem joinL_fold (out : List (List UInt8)) (f n : Nat) (l : List UInt8) (r : List (List UInt8)) (hb : begins l = false) (hn : 1 ≤ n) :
    joinL out (linesOf (chunk f n l) ++ r) = joinL (out ++ [l]) r := by
  obtain ⟨c, cs, e⟩ := chunk_ne f n l
  have hfl := chunk_flatten f n l
  rw [e] at hfl ⊢
  have hc : begins c = false := by
    cases f with
    | zero =>
      simp [chunk] at e
      rw [← e.1]; exact hb
    | succ f =>
      rw [chunk] at e
      split at e
      · simp only [List.cons.injEq] at e
        rw [← e.1]
        cases l with
        | nil => simp [begins]
        | cons a t =>
          cases n with
          | zero => omega
          | succ n => simpa [begins] using hb
      · simp only [List.cons.injEq] at e
        rw [← e.1]; exact hb
  show joinL out (c :: (cs.map (32 :: ·) ++ r)) = _
  rw [joinL, if_neg (by rw [hc]; simp), joinL_more]
  simp only [List.flatten_cons] at hfl
  rw [hfl]

theorem joinL_folds : ∀ (ls out : List (List UInt8)), (∀ l ∈ ls, begins l = false) → joinL out (ls.flatMap fun l => linesOf (chunk l.length 75 l)) = some (out ++ ls)
  | [], out, _ => by simp [joinL]
  | l :: ls, out, h => by
    rw [List.flatMap_cons, joinL_fold _ _ _ _ _ (h l (by simp)) (by omega), joinL_folds ls _ (fun x hx => h x (by simp [hx]))]
    simp

/-- Lines that are folded and unfolded are what they were. -/
theorem unf_folds (ls : List (List UInt8)) (hne : ls ≠ []) (hc : ∀ l ∈ ls, Clean l) (hb : ∀ l ∈ ls, begins l = false) : unf (ls.flatMap fold) = some ls := by
  have e : ls.flatMap fold = (ls.flatMap fun l => linesOf (chunk l.length 75 l)).flatMap crlf := by
    rw [List.flatMap_assoc]
    congr 1
    funext l
    exact foldGo_chunk l.length 75 l
  have hne' : ls.flatMap fold ≠ [] := by
    cases ls with
    | nil => exact absurd rfl hne
    | cons l r =>
      obtain ⟨c, cs, ec⟩ := chunk_ne l.length 75 l
      rw [e, List.flatMap_cons, ec]
      simp [linesOf, crlf]
  unfold unf
  rw [if_neg hne', (chop_iff _ (ls.flatMap fun l => linesOf (chunk l.length 75 l))).2 ⟨?_, e⟩]
  · show joinL [] _ = _
    rw [joinL_folds ls [] hb]; simp
  · intro x hx
    obtain ⟨l, hl, hx⟩ := List.mem_flatMap.1 hx
    exact linesOf_clean _ (chunk_clean _ _ _ (hc l hl)) x hx

/-- No piece has more than 75 bytes ahead of its end; 'w': bytes since the last line feed. -/
def okW : Nat → List UInt8 → Bool
  | _, [] => true
  | w, c :: r => if c = 10 then decide (w + 1 ≤ 77) && okW 0 r else okW (w + 1) r

theorem okW_line (l r : List UInt8) (h : Clean l) : ∀ w, w + l.length ≤ 75 → okW w (crlf l ++ r) = okW 0 r := by
  induction l with
  | nil => intro w hw; simp only [List.length_nil] at hw; simp [crlf, okW]; intro h; omega
  | cons c t ih =>
    intro w hw
    simp only [List.length_cons] at hw
    show okW w (c :: (crlf t ++ r)) = _
    rw [okW, if_neg (h c (by simp)).2, ih (fun x hx => h x (by simp [hx])) (w + 1) (by omega)]

theorem okW_lines : ∀ (ls : List (List UInt8)) (r : List UInt8), (∀ l ∈ ls, Clean l ∧ l.length ≤ 75) → okW 0 (ls.flatMap crlf ++ r) = okW 0 r
  | [], r, _ => by simp
  | l :: ls, r, h => by
    rw [List.flatMap_cons, List.append_assoc, okW_line l _ (h l (by simp)).1 0 (by have := (h l (by simp)).2; omega), okW_lines ls r (fun x hx => h x (by simp [hx]))]

theorem okW_fold (l r : List UInt8) (h : Clean l) : okW 0 (fold l ++ r) = okW 0 r := by
  unfold fold
  rw [foldGo_chunk]
  refine okW_lines _ r ?_
  obtain ⟨c, cs, e⟩ := chunk_ne l.length 75 l
  have hs := chunk_short l.length 75 l (by omega) (Nat.le_refl _) c cs e
  intro x hx
  refine ⟨linesOf_clean _ (chunk_clean _ _ _ h) x hx, ?_⟩
  rw [e] at hx
  rcases List.mem_cons.1 hx with rfl | hx
  · exact hs.1
  · obtain ⟨y, hy, rfl⟩ := List.mem_map.1 hx
    have := hs.2 y hy
    simp; omega

theorem okW_folds : ∀ (ls : List (List UInt8)), (∀ l ∈ ls, Clean l) → okW 0 (ls.flatMap fold) = true
  | [], _ => rfl
  | l :: ls, h => by rw [List.flatMap_cons, okW_fold l _ (h l (by simp)), okW_folds ls (fun x hx => h x (by simp [hx]))]

theorem fold_length (l : List UInt8) : (fold l).length ≤ 5 * l.length + 2 := by
  have : ∀ (f n : Nat) (l : List UInt8), 1 ≤ n → l.length ≤ f → (foldGo f n l).length ≤ 4 * l.length + 2 := by
    intro f
    induction f with
    | zero => intro n l hn hl; simp [foldGo]; omega
    | succ f ih =>
      intro n l hn hl
      rw [foldGo]
      split
      · have := ih 74 (l.drop n) (by omega) (by simp; omega)
        simp only [List.length_append, List.length_take, List.length_drop, List.length_cons, List.length_nil] at this ⊢
        omega
      · simp; omega
  have := this l.length 75 l (by omega) (Nat.le_refl _)
  unfold fold; omega

end Tt
