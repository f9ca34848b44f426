/- Feeds in memory; feed.Valid and timetableref40.Valid: their contracts. Events in a row of their own, as a drawn feed holds them. No function of the program in sight. Condition: none. A region that draws its order, by an invariant: one goal for each operation. No function of the program in sight. Condition: none. A region that draws its order and ends in one operation that waits for all others: an invariant for those before it. No function of the program in sight. Condition: none. Regions that only make blocks; an event's block filled anew. No function of the program in sight. Condition: none. subscriber.told, timetableref41.kind, timetableref40.Find: their contracts. -/
import Derived.Test.YtcomifbfldoeiaaGreatDoorPk8
import Derived.Test.YtcomifbfldoeiaaGreatDoorParseAll
import Derived.WalkLawsBesides
import Derived.Orders
import Derived.Deep.DeepCutAuto
import Derived.Laws.AppendOwnNone
namespace Go.Proofs.YtcomifbfldoeiaaGreatDoor
open Go.RowKit

/-- A slice of whole numbers. -/
def SlI (B : Nat) (w : World) (v : Value) (xs : List Int) : Prop := ∃ ao c, v = .slice ao xs.length c ∧ Ints B w ao xs
/-- What is known of the sizes in an event. -/
structure EvB (e : Ev) : Prop where
  ex : e.days.ex.length ≤ 4611686018427387903
  xt : e.days.xt.length ≤ 4611686018427387903
  uid : e.uid.size ≤ 4611686018427387904
  summ : e.summ.size ≤ 4611686018427387904
  loc : e.loc.size ≤ 4611686018427387904

/-- A slice of events, in blocks below B. -/
def Evs (B : Nat) (w : World) (ao : Option Addr) (es : List Ev) : Prop := es = [] ∨ ∃ b o, ao = some ⟨b, o, none⟩ ∧ b < B ∧ ∀ (j : Nat) (e : Ev), es[j]? = some e → EvB e ∧ ∃ v v', EvC b (o + j * 13) e v v' w ∧ SlI B w v e.days.ex ∧ SlI B w v' e.days.xt
end Go.Proofs.YtcomifbfldoeiaaGreatDoor
-- RowEv
namespace Go.Proofs.YtcomifbfldoeiaaGreatDoor
open Go.RowKit

/-- The cells of some events. -/
def tCells (ts : List (Ev × Value × Value)) : List Value := ts.flatMap fun t => (evCells t.1 t.2.1 t.2.2).toList
theorem tCells_len : ∀ ts : List (Ev × Value × Value), (tCells ts).length = ts.length * 13
  | [] => rfl
  | t :: r => by
    show ((evCells t.1 t.2.1 t.2.2).toList ++ tCells r).length = _
    rw [List.length_append, tCells_len r, List.length_cons]
    show 13 + _ = _
    omega
theorem tCells_get : ∀ (ts : List (Ev × Value × Value)) (j i : Nat) (t : Ev × Value × Value), ts[j]? = some t → i < 13 → (tCells ts)[j * 13 + i]? = (evCells t.1 t.2.1 t.2.2).toList[i]?
  | [], _, _, _, h, _ => by simp at h
  | t0 :: r, 0, i, t, h, hi => by
    simp at h; subst h
    show ((evCells t0.1 t0.2.1 t0.2.2).toList ++ tCells r)[0 * 13 + i]? = _
    rw [show 0 * 13 + i = i by omega, List.getElem?_append_left (by show i < 13; exact hi)]
  | t0 :: r, j + 1, i, t, h, hi => by
    show ((evCells t0.1 t0.2.1 t0.2.2).toList ++ tCells r)[(j + 1) * 13 + i]? = _
    rw [List.getElem?_append_right (by show 13 ≤ _; omega), show (j + 1) * 13 + i - (evCells t0.1 t0.2.1 t0.2.2).toList.length = j * 13 + i by show _ - 13 = _; omega]
    exact tCells_get r j i t (by simpa using h) hi
theorem tCells_snoc (ts : List (Ev × Value × Value)) (t : Ev × Value × Value) : tCells (ts ++ [t]) = tCells ts ++ (evCells t.1 t.2.1 t.2.2).toList := by
  unfold tCells; simp

end Go.Proofs.YtcomifbfldoeiaaGreatDoor

-- Inv
namespace Go.Proofs.YtcomifbfldoeiaaGreatDoor
open Go.RowKit

theorem filter_le' {α : Type} (p q : α → Bool) : ∀ l : List α, (∀ x ∈ l, q x = true → p x = true) → (l.filter q).length ≤ (l.filter p).length
  | [], _ => Nat.le_refl _
  | x :: r, h => by
    have ih := filter_le' p q r (fun y hy => h y (List.mem_cons_of_mem _ hy))
    have h0 := h x (List.mem_cons_self ..)
    cases hq : q x <;> cases hp : p x <;> simp [hq, hp] at h0 ⊢ <;> omega
theorem filter_lt' {α : Type} (p q : α → Bool) (i : α) (hp : p i = true) (hq : q i = false) : ∀ l : List α, (∀ x ∈ l, q x = true → p x = true) → i ∈ l → (l.filter q).length < (l.filter p).length
  | [], _, hi => by cases hi
  | x :: r, h, hi => by
    have h0 := h x (List.mem_cons_self ..)
    rcases List.mem_cons.1 hi with e | hi
    · subst e; have ih := filter_le' p q r (fun y hy => h y (List.mem_cons_of_mem _ hy))
      simp [hp, hq]; omega
    · have ih := filter_lt' p q i hp hq r (fun y hy => h y (List.mem_cons_of_mem _ hy)) hi
      cases hq2 : q x <;> cases hp2 : p x <;> simp [hq2, hp2] at h0 ⊢ <;> omega

/-- How many operations are still to come. -/
def toCome (ops : Array Oper) (listed : Array Bool) : Nat := ((List.range ops.size).filter fun i => !listed.getD i true).length

section
variable {P : Program} {ops : Array Oper} {Q : Exit → Act → World → Prop} {md : Region.Mode}
theorem ready_mem {listed : Array Bool} {i : Nat} (h : i ∈ Region.ready md ops listed) : i ∈ List.range ops.size ∧ listed.getD i true = false := by
  unfold Region.ready at h
  have := List.mem_filter.1 h
  refine ⟨this.1, ?_⟩
  have h2 := this.2; cases hl : listed.getD i true <;> simp [hl] at h2 ⊢

theorem ready_spec {listed : Array Bool} {i : Nat} (h : i ∈ Region.ready md ops listed) : i < ops.size ∧ listed.getD i true = false ∧ ∀ o, ops[i]? = some o → ∀ e ∈ o.after.toList, Region.binds md e = true → listed.getD e.on false = true := by
  obtain ⟨h1, h2⟩ := ready_mem h
  refine ⟨List.mem_range.1 h1, h2, fun o ho e he hb => ?_⟩
  unfold Region.ready at h
  have h3 := (List.mem_filter.1 h).2
  rw [ho] at h3
  simp only [Option.map_some, Option.getD_some, Bool.and_eq_true] at h3
  have h4 := (Array.all_eq_true_iff_forall_mem.1 h3.2) e (Array.mem_toList_iff.1 he)
  simpa [hb] using h4

theorem wpAny_inv {J : Array Bool → Act → World → Prop}
    (hstep : ∀ listed a w i, J listed a w → i ∈ Region.ready md ops listed → wpOp P ops Q i (J (listed.setIfInBounds i true)) a w)
    (hdone : ∀ listed a w, J listed a w → Region.ready md ops listed = [] → Q .normal a w) :
    ∀ (fuel : Nat) (listed : Array Bool) (a : Act) (w : World), J listed a w → toCome ops listed ≤ fuel → wpAny P md ops Q fuel listed a w
  | 0, listed, a, w, hJ, hf => by
    have hr : Region.ready md ops listed = [] := by
      refine List.eq_nil_iff_forall_not_mem.2 fun i hi => ?_
      obtain ⟨h1, h2⟩ := ready_mem hi
      have : i ∈ (List.range ops.size).filter fun i => !listed.getD i true := List.mem_filter.2 ⟨h1, by simp [h2]⟩
      have hp := List.length_pos_of_mem this; unfold toCome at hf
      omega
    exact ⟨hr, hdone listed a w hJ hr⟩
  | fuel + 1, listed, a, w, hJ, hf => by
    refine ⟨hdone listed a w hJ, fun i hi => wpOp_mono (fun a' w' h' => wpAny_inv hstep hdone fuel _ a' w' h' ?_) (hstep listed a w i hJ hi)⟩
    obtain ⟨h1, h2⟩ := ready_mem hi
    have hlt : i < listed.size := by
      rcases Nat.lt_or_ge i listed.size with h | h
      · exact h
      · rw [Array.getD_eq_getD_getElem?, Array.getElem?_eq_none h] at h2; cases h2
    have := filter_lt' (fun i => !listed.getD i true) (fun j => !(listed.setIfInBounds i true).getD j true) i (by simp [h2]) (by simp [hlt]) (List.range ops.size)
      (fun x _ hx => by
        by_cases e : i = x
        · subst e; simp [hlt] at hx
        · simpa [Array.getD_eq_getD_getElem?, Array.getElem?_setIfInBounds_ne e] using hx) h1
    unfold toCome at hf ⊢
    omega

/-- The post of one operation: K behind it, Q at a way out. -/
def opPost (Q : Exit → Act → World → Prop) (K : Act → World → Prop) : Exit → Act → World → Prop
  | .normal, a, w => K a w
  | e, a, w => Q e a w
theorem letsOut_opPost {K : Act → World → Prop} (h : LetsOut (opPost Q K)) : LetsOut Q := h
theorem wp_opPost {o : Oper} {a : Act} {w : World} {K : Act → World → Prop} (hh : o.wp P a w K (opPost Q K)) : o.wp P a w K Q := by
  unfold Oper.wp at *
  generalize (execOp a.eval o).run P w = r at *
  cases r with
  | ok n w' =>
    cases n <;> simp only [Oper.upon] at hh ⊢ <;>
      first
        | exact hh
        | exact Calls.mono hh (fun e w'' he => by cases e <;> first | exact he | exact letsOut_opPost he)
        | exact Rows.mono hh (fun _ _ he => he)
  | halt x w' => cases x <;> simp only [Oper.upon] at hh ⊢ <;> exact hh
theorem wpOp_of_list {o : Oper} {i : Nat} {a : Act} {w : World} {K : Act → World → Prop} (ho : ops[i]? = some o) (h : wpList P ops (opPost Q K) [o] a w) : wpOp P ops Q i K a w := by
  unfold wpOp
  rw [ho]
  unfold wpList at h
  split at h
  · rename_i hw
    simp only [hw, if_true]
    exact h.imp (fun h => wp_opPost h) (fun h => ⟨h.1, letsOut_opPost h.2⟩)
  · rename_i hw
    simp only [hw]
    exact h

/-- One operation, its post a letter. -/
theorem wpOp_of_list_any {o : Oper} {i : Nat} {a : Act} {w : World} {K : Act → World → Prop} (ho : ops[i]? = some o) (h : ∀ QQ : Exit → Act → World → Prop, (∀ a w, K a w → QQ .normal a w) → wpList P ops QQ [o] a w) : wpOp P ops Q i K a w :=
  wpOp_of_list ho (h _ (fun _ _ h => h))

/-- THE RULE: J at the start, kept by each operation that may come up, and the post where none is left. -/
theorem wp_region_inv {id : Nat} {a : Act} {w : World} (hm : P.follows .mixedOrders = true) (J : Array Bool → Act → World → Prop)
    (h0 : J (Array.replicate ops.size false) a { w with drawn := w.drawn + 1 })
    (hstep : ∀ listed a w i, J listed a w → i ∈ Region.ready .any ops listed → wpOp P ops Q i (J (listed.setIfInBounds i true)) a w)
    (hdone : ∀ listed a w, J listed a w → Region.ready .any ops listed = [] → Q .normal a w) : (Code.region id ops true).wp P Q a w :=
  wp_region_any hm (wpAny_inv hstep hdone _ _ _ _ h0 (by
    unfold toCome
    refine Nat.le_trans (List.length_filter_le _ _) ?_
    simp))
end
end Go.Proofs.YtcomifbfldoeiaaGreatDoor

-- Cond
namespace Go.Proofs.YtcomifbfldoeiaaGreatDoor
open Go.RowKit

/-- Every operation waits for operations ahead of it alone. -/
def aheadB (ops : Array Oper) : Bool := (List.range ops.size).all fun i => ((ops[i]?).map (·.after.toList.all fun e => !Region.binds .any e || decide (e.on < i))).getD true
/-- Does operation i wait for operation k, perhaps through others? -/
def needsB (ops : Array Oper) : Nat → Nat → Nat → Bool
  | 0, _, _ => false
  | f + 1, i, k => ((ops[i]?).map fun o => (o.after.toList.any fun e => Region.binds .any e && e.on == k) || (o.after.toList.any fun e => Region.binds .any e && needsB ops f e.on k)).getD false
/-- Each operation from n on waits for all ahead of it. -/
def tailB (ops : Array Oper) (n : Nat) : Bool := (List.range (ops.size - n)).all fun j => (List.range (n + j)).all fun k => needsB ops ops.size (n + j) k

section
variable {P : Program} {ops : Array Oper} {Q : Exit → Act → World → Prop} {md : Region.Mode}
theorem ready_nil {listed : Array Bool} (h : Region.ready md ops listed = []) (i : Nat) (hi : i < ops.size)
    (he : ∀ o, ops[i]? = some o → ∀ e ∈ o.after.toList, Region.binds md e = true → listed.getD e.on false = true) : listed.getD i true = true := by
  cases hl : listed.getD i true with
  | true => rfl
  | false =>
    exfalso
    have hm : i ∈ Region.ready md ops listed := by
      unfold Region.ready
      refine List.mem_filter.2 ⟨List.mem_range.2 hi, ?_⟩
      have ho : ops[i]? = some ops[i] := Array.getElem?_eq_getElem hi
      rw [ho]
      simp only [Option.map_some, Option.getD_some, Bool.and_eq_true, hl, Bool.not_false, true_and]
      refine Array.all_eq_true_iff_forall_mem.2 fun e hh => ?_
      cases hb : Region.binds md e with
      | false => simp
      | true => rw [he _ ho e (Array.mem_toList_iff.2 hh) hb]; simp
    rw [h] at hm; cases hm
theorem all_listed {listed : Array Bool} (h : Region.ready .any ops listed = []) (hs : listed.size = ops.size) (hw : aheadB ops = true) : ∀ i, i < ops.size → listed.getD i true = true := by
  intro i; induction i using Nat.strongRecOn with
  | _ i ih =>
    intro hi; refine ready_nil h i hi fun o ho e hh hb => ?_
    have h1 := List.all_eq_true.1 hw i (List.mem_range.2 hi)
    rw [ho] at h1
    simp only [Option.map_some, Option.getD_some] at h1
    have h2 := List.all_eq_true.1 h1 e hh; rw [hb] at h2
    have h2 := of_decide_eq_true (by simpa using h2)
    have h3 := ih e.on h2 (by omega)
    have h4 : e.on < listed.size := by omega
    simp only [Array.getD_eq_getD_getElem?, Array.getElem?_eq_getElem h4, Option.getD_some] at h3 ⊢
    exact h3

/-- What is listed has all listed that it waits for. -/
def closedL (ops : Array Oper) (listed : Array Bool) : Prop := ∀ i, i < ops.size → listed.getD i false = true → ∀ o, ops[i]? = some o → ∀ e ∈ o.after.toList, Region.binds .any e = true → listed.getD e.on false = true
theorem needs_listed {listed : Array Bool} (hc : closedL ops listed) (hw : aheadB ops = true) : ∀ (f i k : Nat), i < ops.size → needsB ops f i k = true →
    (∀ o, ops[i]? = some o → ∀ e ∈ o.after.toList, Region.binds .any e = true → listed.getD e.on false = true) → listed.getD k false = true
  | 0, _, _, _, h, _ => by cases h
  | f + 1, i, k, hi, h, he => by
    have ho : ops[i]? = some ops[i] := Array.getElem?_eq_getElem hi
    unfold needsB at h
    rw [ho] at h
    simp only [Option.map_some, Option.getD_some, Bool.or_eq_true] at h
    rcases h with h | h
    · obtain ⟨e, h1, h2⟩ := List.any_eq_true.1 h
      rw [Bool.and_eq_true] at h2
      have := he _ ho e h1 h2.1
      rwa [beq_iff_eq.1 h2.2] at this
    · obtain ⟨e, h1, h2⟩ := List.any_eq_true.1 h
      rw [Bool.and_eq_true] at h2
      have h3 := he _ ho e h1 h2.1
      have h4 := List.all_eq_true.1 hw i (List.mem_range.2 hi)
      rw [ho] at h4
      simp only [Option.map_some, Option.getD_some] at h4
      have h5 := List.all_eq_true.1 h4 e h1; rw [h2.1] at h5
      have h5 := of_decide_eq_true (by simpa using h5)
      exact needs_listed hc hw f e.on k (by omega) h2.2 (hc e.on (by omega) h3)
theorem tail_needs {n : Nat} (hl : tailB ops n = true) {m k : Nat} (hn : n ≤ m) (hm : m < ops.size) (hk : k < m) : needsB ops ops.size m k = true := by
  have h1 := List.all_eq_true.1 hl (m - n) (List.mem_range.2 (by omega))
  rw [show n + (m - n) = m by omega] at h1
  exact List.all_eq_true.1 h1 k (List.mem_range.2 hk)
theorem getD_any {listed : Array Bool} {k : Nat} {c : Bool} (d : Bool) (hk : k < listed.size) (h : listed.getD k c = true) : listed.getD k d = true := by
  simp only [Array.getD_eq_getD_getElem?, Array.getElem?_eq_getElem hk, Option.getD_some] at h ⊢
  exact h
theorem getD_set {listed : Array Bool} {i k : Nat} (c : Bool) (hi : i < listed.size) : (listed.setIfInBounds i true).getD k c = if i = k then true else listed.getD k c := by
  simp only [Array.getD_eq_getD_getElem?, Array.getElem?_setIfInBounds]
  split
  · rename_i h; subst h; simp
  · rfl
theorem closed_set {listed : Array Bool} {i : Nat} (hs : listed.size = ops.size) (hc : closedL ops listed) (hi : i < ops.size)
    (he : ∀ o, ops[i]? = some o → ∀ e ∈ o.after.toList, Region.binds .any e = true → listed.getD e.on false = true) : closedL ops (listed.setIfInBounds i true) := by
  intro j hj hl o ho e h1 h2; rw [getD_set _ (by omega)] at hl ⊢
  split
  · rfl
  · split at hl
    · rename_i h; subst h; exact he o ho e h1 h2
    · exact hc j hj hl o ho e h1 h2

theorem tail_any {l : List Oper} {a : Act} {w : World} (D : Act → World → Prop) (hD : ∀ a w, D a w → Q .normal a w) (h : ∀ QQ : Exit → Act → World → Prop, (∀ a w, D a w → QQ .normal a w) → wpList P ops QQ l a w) : wpList P ops Q l a w := h Q hD

/-- THE RULE with a tail: J for the operations ahead of n, in whatever order they come; those from n on, each of which waits for all ahead of it, in the order of the text. -/
theorem wp_region_tail {id : Nat} {a : Act} {w : World} (n : Nat) (hm : P.follows .mixedOrders = true) (J : Array Bool → Act → World → Prop)
    (hn : n < ops.size) (hw : aheadB ops = true) (hl : tailB ops n = true)
    (h0 : J (Array.replicate ops.size false) a { w with drawn := w.drawn + 1 })
    (hJ : ∀ listed a w, J listed a w → listed.size = ops.size ∧ ∀ k, n ≤ k → k < ops.size → listed.getD k true = false)
    (hstep : ∀ listed a w i, J listed a w → i < n → listed.getD i true = false → (∀ o, ops[i]? = some o → ∀ e ∈ o.after.toList, Region.binds .any e = true → listed.getD e.on false = true) → wpOp P ops Q i (J (listed.setIfInBounds i true)) a w)
    (htail : ∀ listed a w, J listed a w → (∀ i, i < n → listed.getD i true = true) → wpList P ops Q (ops.toList.drop n) a w) : (Code.region id ops true).wp P Q a w := by
  have hrun : ∀ listed a w, J listed a w → (∀ i, i < n → listed.getD i true = true) → wpOps P ops Q (List.range' n (ops.size - n)) a w := by
    intro listed a w h h2; have := wpOps_eq_wpList (P := P) (ops := ops) (Q := Q) (ops.toList.drop n) n (by intro j; simp)
    rw [List.length_drop, Array.length_toList] at this
    rw [this]
    exact htail listed a w h h2
  refine wp_region_inv hm (fun listed a w => closedL ops listed ∧ listed.size = ops.size ∧ (J listed a w ∨ ∃ m, n ≤ m ∧ m ≤ ops.size ∧ (∀ k, k < ops.size → listed.getD k true = decide (k < m)) ∧ wpOps P ops Q (List.range' m (ops.size - m)) a w)) ?_ ?_ ?_
  · refine ⟨?_, by simp, .inl h0⟩
    intro i hi hl2; exfalso
    rw [Array.getD_eq_getD_getElem?, Array.getElem?_eq_getElem (by simpa using hi)] at hl2
    simp at hl2
  · rintro listed a x i ⟨hc, hs, h⟩ hi
    obtain ⟨h1, h2, h3⟩ := ready_spec hi
    have hc' := closed_set hs hc h1 h3; have hs' : (listed.setIfInBounds i true).size = ops.size := by simpa using hs
    -- an operation of the tail comes up behind all ahead of it
    have hbehind : n ≤ i → ∀ k, k < i → listed.getD k true = true := fun hge k hk => getD_any true (by omega) (needs_listed hc hw ops.size i k h1 (tail_needs hl hge h1 hk) h3)
    have hone : ∀ m, n ≤ m → m < ops.size → (∀ k, k < ops.size → listed.getD k true = decide (k < m)) → i = m := by
      intro m hm1 hm2 hlst; have h4 := hlst i h1; rw [h2] at h4
      have h5 : m ≤ i := by have := (decide_eq_false_iff_not.1 h4.symm); omega
      rcases Nat.lt_or_ge m i with h6 | h6
      · have h7 := hbehind (by omega) m h6
        rw [hlst m hm2] at h7
        exact absurd (of_decide_eq_true h7) (Nat.lt_irrefl _)
      · omega
    have hnext : ∀ m, i = m → m < ops.size → (∀ k, k < ops.size → listed.getD k true = decide (k < m)) → ∀ k, k < ops.size → (listed.setIfInBounds i true).getD k true = decide (k < m + 1) := by
      intro m him hm2 hlst k hk; rw [getD_set _ (by omega)]
      split
      · rename_i h; subst h; subst him; simp
      · rename_i hne
        rw [hlst k hk]
        have : (k < m) ↔ (k < m + 1) := by omega
        simp [this]
    rcases h with h | ⟨m, hm1, hm2, hlst, hrest⟩
    · rcases Nat.lt_or_ge i n with hlt | hge
      · exact wpOp_mono (fun _ _ h => ⟨hc', hs', .inl h⟩) (hstep listed a x i h hlt h2 h3)
      · have hlst : ∀ k, k < ops.size → listed.getD k true = decide (k < n) := by
          intro k hk; rcases Nat.lt_or_ge k n with hk2 | hk2
          · rw [hbehind hge k (by omega)]; simp [hk2]
          · rw [(hJ _ _ _ h).2 k hk2 hk]; simp; omega
        have hin := hone n (Nat.le_refl _) hn hlst
        have hr := hrun listed a x h (fun k hk => by rw [hlst k (by omega)]; simp [hk])
        rw [show ops.size - n = (ops.size - (n + 1)) + 1 by omega, List.range'_succ, wpOps_cons] at hr
        rw [hin] at hnext hc' hs' ⊢
        exact wpOp_mono (fun _ _ h => ⟨hc', hs', .inr ⟨n + 1, by omega, by omega, hnext n rfl hn hlst, h⟩⟩) hr
    · have hm3 : m < ops.size := by
        rcases Nat.lt_or_ge m ops.size with h | h
        · exact h
        · have := hlst i h1; rw [h2] at this; have := decide_eq_false_iff_not.1 this.symm; omega
      have him := hone m hm1 hm3 hlst; rw [show ops.size - m = (ops.size - (m + 1)) + 1 by omega, List.range'_succ, wpOps_cons] at hrest
      rw [him] at hnext hc' hs' ⊢
      exact wpOp_mono (fun _ _ h => ⟨hc', hs', .inr ⟨m + 1, by omega, by omega, hnext m rfl hm3 hlst, h⟩⟩) hrest
  · rintro listed a x ⟨-, hs, h⟩ hr
    have hall := all_listed hr hs hw; rcases h with h | ⟨m, hm1, hm2, hlst, hrest⟩
    · have h1 := (hJ _ _ _ h).2 n (Nat.le_refl _) hn
      rw [hall n hn] at h1; cases h1
    · have hm3 : m = ops.size := by
        rcases Nat.lt_or_ge m ops.size with h | h
        · have h1 := hall m h; rw [hlst m h] at h1
          exact absurd (of_decide_eq_true h1) (Nat.lt_irrefl _)
        · omega
      subst hm3; simpa [wpOps] using hrest
end

/-- Every block from B on is as it was. -/
def Kept (B : Nat) (w w' : World) : Prop := ∀ g cs ty, B ≤ g → Blk g cs ty w → Blk g cs ty w'
theorem Kept.alloc (B : Nat) (w : World) (o : Obj) : Kept B w (w.alloc o) := fun _ _ _ _ h => h.alloc o
theorem Kept.only {b B : Nat} {w w' : World} (h : Only b w w') (hb : b < B) : Kept B w w' := fun _ _ _ hg hk => hk.only h (by omega)
theorem Kept.but {b B : Nat} {w w' : World} (h : But b w.heap.size w w') (hb : b < B) : Kept B w w' := fun _ _ _ hg hk => hk.but h (by omega)

/-- What a drawn region has done so far: it has rolled the dice in block b, and made blocks. -/
structure Sofar (b : Nat) (w w' : World) : Prop where
  but : But b w.heap.size w w'
  dice : Dice b w'
theorem dice_draw {b : Nat} {w : World} (h : Dice b w) : Dice b w.drew := h.kept h.lt (below_drw (Below.refl _ w))
theorem but_draw {b B : Nat} {w w1 : World} (h : But b B w w1) : But b B w w1.drew := h.trans (But.of_below (below_drw (Below.refl _ w1)))
theorem Sofar.start {b : Nat} {w : World} (h : Dice b w) : Sofar b w w.drew := ⟨but_draw (But.refl b _ w), dice_draw h⟩
theorem Sofar.refl {b : Nat} {w : World} (h : Dice b w) : Sofar b w w := ⟨But.refl b _ w, h⟩
theorem Sofar.alloc {b : Nat} {w w' : World} (h : Sofar b w w') (o : Obj) : Sofar b w (w'.alloc o) := ⟨but_alloc h.but h.but.size o, dice_alloc h.dice o⟩
theorem Sofar.only {b : Nat} {w w' w'' : World} (h : Sofar b w w') (hd : Dice b w'') (ho : Only b w' w'') : Sofar b w w'' := ⟨but_only h.but ho, hd⟩
theorem Sofar.then {b : Nat} {w w' w'' : World} (h : Sofar b w w') (hd : Dice b w'') (ho : But b w'.heap.size w' w'') : Sofar b w w'' := ⟨but_then h.but ho h.but.size, hd⟩
theorem Sofar.set {b g : Nat} {w w' : World} (h : Sofar b w w') (hg : w.heap.size ≤ g) (hb : b < g) (i : Nat) (u : Value) : Sofar b w (w'.setCell ⟨g, i, none⟩ u) := ⟨but_set h.but hg, dice_set h.dice hb⟩
theorem Sofar.blk {b g : Nat} {w w' : World} {cs : Array Value} {ty : TypeId} (h : Sofar b w w') (hk : Blk g cs ty w) (hg : g ≠ b) : Blk g cs ty w' := hk.but h.but hg
theorem Sofar.trans {b : Nat} {w w' w'' : World} (h : Sofar b w w') (k : Sofar b w' w'') : Sofar b w w'' := ⟨but_then h.but k.but h.but.size, k.dice⟩
theorem Blk.new' {g : Nat} (w : World) (cs : Array Value) (ty : TypeId) (h : g = w.heap.size) : Blk g cs ty (w.alloc (.cells cs ty)) := by subst h; exact Blk.new w cs ty
theorem Sofar.grown0 {b : Nat} {w w' w'' : World} (h : Sofar b w w') (hg : w'.grownBy w'' none) : Sofar b w w'' := by
  have hb : Below w'.heap.size w' w'' := ⟨hg.os, hg.tape, hg.output, hg.size, fun k hk => hg.block k hk (by simp)⟩
  exact ⟨but_then h.but (But.of_below hb) h.but.size, h.dice.kept h.dice.lt hb⟩

/-- 'append(s, x...)' where both are rows of the call's own, x nil or not. -/
theorem wpList_append_row {P : Program} {w : World} {ops : Array Oper} {rest : List Oper} {o : Oper} {a : Act} {Q : Exit → Act → World → Prop} (hgd : o.guard = none) (s x : Operand) (t : TypeId)
    (ho : o.op = .call { callee := .builtin .append, args := #[s, x], argTypes := #[t, t] })
    (base : Nat) (e : TypeId) (i : TypeInfo) (z : Value) (size bytes : Nat) (ht : P.underlying t = some (.slice e)) (hi : P.info? e = some i) (hz : i.zero = some z)
    (hsize : i.size = size) (hby : i.bytes = bytes) (hzs : z.cells.size = size) (hsz : 0 < size)
    (v : Value) (n : Nat) (xs : List Value) (hs : a.eval s = v) (hown : w.ownsRow base e size v n xs)
    (base2 : Nat) (src : Value) (m : Nat) (news : List Value) (hx : a.eval x = src) (hsrc : w.ownsRow base2 e size src m news) (h1 : ∀ u ∈ news, u.oneCell' = true)
    (h63 : n + m ≤ maxLen) (hbytes : (n + m) * bytes ≤ 140737488355328) (hbase : base ≤ w.heap.size)
    (h : ∀ v' w', w'.ownsRow base e size v' (n + m) (xs ++ news) → w.grownBy w' v.ownBlock → (v'.ownBlock = v.ownBlock ∨ v'.ownBlock = some w.heap.size) → wpList P ops Q rest (a.put o.dst v') w') :
    wpList P ops Q (o :: rest) a w := by
  rcases hsrc.2 with ⟨rfl, rfl⟩ | ⟨g, cap, cur, rfl, _, _, _⟩
  · have hn : news = [] := List.eq_nil_of_length_eq_zero (by simpa using hsrc.1)
    subst hn; exact wpList_append_own_none hgd s x t ho base e i size ht hi v n xs hs hown hx (h v w (by simpa using hown) (World.grownBy.refl w _) (.inl rfl))
  · exact wpList_append_own_at w hgd s x t ho base e i z size bytes ht hi hz hsize hby hzs hsz v n xs hs hown ⟨g, 0, none⟩ m cap news hx hsrc.1 (fun j u hj => hsrc.cells (g := g) rfl j u hj) h1 h63 hbytes hbase (fun v' w' a1 a2 _ a4 => h v' w' a1 a2 a4)
theorem evCells_one (e : Ev) (p p' : Option Addr) (n n' c c' : Nat) : ∀ u ∈ (evCells e (.slice p n c) (.slice p' n' c')).toList, u.oneCell' = true := by
  intro u hu; simp only [evCells, List.mem_cons, List.not_mem_nil, or_false] at hu
  rcases hu with rfl | rfl | rfl | rfl | rfl | rfl | rfl | rfl | rfl | rfl | rfl | rfl | rfl <;> rfl
theorem infoEv : (Tryz.prog.info? 104).map (fun i => (i.zero, i.size, i.bytes)) = some (some (.agg #[.string ⟨#[]⟩, .int .i64 0, .bool false, .int .i64 0, .int .i64 0, .int .i64 0, .int .i64 0, .slice none 0 0, .slice none 0 0, .int .i64 0, .int .i64 0, .string ⟨#[]⟩, .string ⟨#[]⟩]), 13, 160) := by kernel_rfl
theorem one_byte_blk {w : World} {g : Nat} {c : UInt8} (h : Blk g #[.int .u8 c.toNat] 5 w) : (convert 145 9 (.slice (some ⟨g, 0, none⟩) 1 1)).run Tryz.prog w = .ok (.string ⟨#[c]⟩) w :=
  string_of_row (B := 0) (l := [c]) ⟨rfl, .inr ⟨g, 1, _, rfl, Nat.zero_le _, h, Nat.le_refl _, by decide, rfl, rfl⟩⟩
theorem byte_of (m : Int) (h0 : 0 ≤ m) (h1 : m < 256) : m = ((UInt8.ofNat m.toNat).toNat : Int) := by
  rw [UInt8.toNat_ofNat_of_lt' (show m.toNat < UInt8.size by show m.toNat < 256; omega)]
  omega
theorem blk_cells {w : World} {g : Nat} {cs : Array Value} {ty : TypeId} (h : Blk g cs ty w) (j : Nat) (u : Value) (hj : cs.toList[j]? = some u) : w.cell? ((⟨g, 0, none⟩ : Addr).add j) = some u := by
  rw [Addr.add_lit, h.cell]
  simpa using hj
end Go.Proofs.YtcomifbfldoeiaaGreatDoor
namespace Go.Proofs.YtcomifbfldoeiaaGreatDoor
open Go.RowKit

/-- What a drawn region has done so far: it has made blocks. -/
structure Made (w w' : World) : Prop where
  below : Below w.heap.size w w'
theorem Made.start (w : World) : Made w w.drew := ⟨below_drw (Below.refl _ w)⟩
theorem Made.then {w w1 w2 : World} (h : Made w w1) (k : Below w1.heap.size w1 w2) : Made w w2 := ⟨below_then h.below k⟩
theorem row_made {w w' : World} {B k : Nat} {e : TypeId} {v : Value} {n : Nat} {xs : List Value} (h : w.ownsRow B e k v n xs) (hb : Below w.heap.size w w') : w'.ownsRow B e k v n xs := by
  refine ⟨h.1, ?_⟩
  rcases h.2 with h1 | ⟨g, cap, cur, r1, r2, r3, r4⟩
  · exact .inl h1
  · exact .inr ⟨g, cap, cur, r1, r2, (hb.block g (Array.getElem?_eq_some_iff.1 r3).1).trans r3, r4⟩
theorem Kept.made {B : Nat} {w w' : World} (h : Below w.heap.size w w') : Kept B w w' := fun _ _ _ _ hk => hk.below h hk.lt

end Go.Proofs.YtcomifbfldoeiaaGreatDoor
namespace Go.Proofs.YtcomifbfldoeiaaGreatDoor
open Go.RowKit

/-- Where an event with an identifier stands; -1: nowhere. -/
def findFrom (u : ByteArray) : List Ev → Int → Int
  | [], _ => -1
  | e :: r, k => if e.uid = u then k else findFrom u r (k + 1)

set_option maxHeartbeats 4000000 in
set_option maxRecDepth 100000 in
theorem find84 (u : ByteArray) (es : List Ev) (ao : Option Addr) (c : Nat) (B : Nat) (w : World) (hE : Evs B w ao es) (hn : es.length ≤ 4611686018427387903) :
    Calls Tryz.prog 40 #[.slice ao es.length c, .string u] w fun e w' => e = .returned (.int .i64 (findFrom u es 0)) ∧ w' = w := by
  have HE := Lib.hid hE; clear hE; obtain ⟨n, hne⟩ : ∃ n, n = es.length := ⟨_, rfl⟩
  rw [← hne] at hn ⊢
  have HN := Lib.hid hne; clear hne; go_enter Tryz.func40, Tryz.ntmps40
  go_wp2_with fail
  go_loop [5] (fun iv => ∃ k : Nat, k ≤ n ∧ iv = .int .i64 k ∧ Hid (findFrom u es 0 = findFrom u (es.drop k) k)) (fun iv => n - (intOf iv).toNat)
  case atStart => exact ⟨0, Nat.zero_le _, rfl, Lib.hid rfl⟩
  case round =>
    obtain ⟨k, hk, rfl, HF⟩ := hrel; by_cases hlt : k < n
    · have hlti : (k : Int) < n := by omega
      have hke : k < es.length := by rw [← HN.out]; exact hlt
      rcases HE.out with h | ⟨g, o, rfl, hg, hc⟩
      · rw [h] at hke; simp at hke
      · obtain ⟨-, v, v', hv, -, -⟩ := hc k _ (List.getElem?_eq_getElem hke)
        have c0 := hv.c0; clear hv hc; obtain ⟨e, hee⟩ : ∃ e, e = es[k] := ⟨_, rfl⟩
        rw [← hee] at c0
        have HD := Lib.hid (show findFrom u es 0 = if e.uid = u then (k : Int) else findFrom u (es.drop (k + 1)) ((k : Int) + 1) from by rw [HF.out, List.drop_eq_getElem_cons hke, ← hee]; rfl)
        clear hee; by_cases he : e.uid = u
        · have hb : (e.uid.toList == u.toList) = true := by rw [he]; simp
          have HX := Lib.hid (show findFrom u es 0 = (k : Int) from by rw [HD.out, if_pos he])
          clear he; go_wp2_with fail
          go_ret; exact ⟨by rw [HX.out]; rfl, rfl⟩
        · have hb : (e.uid.toList == u.toList) = false := by
            rw [beq_eq_false_iff_ne]; intro h; rw [Lib.toList_data, Lib.toList_data] at h; exact he (ByteArray.ext (Array.toList_inj.mp h))
          have HX := Lib.hid (show findFrom u es 0 = findFrom u (es.drop (k + 1)) ((k + 1 : Nat) : Int) from by rw [HD.out, if_neg he]; rfl)
          clear he; go_wp2_with fail
          go_round
          case rel => exact ⟨k + 1, by omega, by go_num, HX⟩
          case measure => simp [intOf]; omega
    · have hlti : ¬ (k : Int) < n := by omega
      have HX := Lib.hid (show findFrom u es 0 = -1 from by rw [HF.out, List.drop_eq_nil_of_le (by rw [← HN.out]; omega)]; rfl)
      go_wp2_with fail
      go_ret; exact ⟨by rw [HX.out]; rfl, rfl⟩
end Go.Proofs.YtcomifbfldoeiaaGreatDoor
