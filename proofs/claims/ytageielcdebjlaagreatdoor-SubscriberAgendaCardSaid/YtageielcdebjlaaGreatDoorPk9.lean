/- Events in a row of their own, as a drawn feed holds them. No function of the program in sight. Condition: none. A region that draws its order, by an invariant: one goal for each operation. No function of the program in sight. Condition: none. A region that draws its order and ends in one operation that waits for all others: an invariant for those before it. No function of the program in sight. Condition: none. Regions that only make blocks; an event's block filled anew. No function of the program in sight. Condition: none. subscriber.told, timetableref41.kind, timetableref40.Find: their contracts. timetableref40.SameEvent: its contract. timetableref41.Same and timetableref41.SameNotices: their contracts. subscriber.Valid, timetableref41.Valid and the law's short: their contracts. -/
import Derived.Test.YtageielcdebjlaaGreatDoorGenE
import Derived.Orders
import Derived.Deep.DeepCutAuto
import Derived.Laws.AppendOwnNone
import Derived.Test.YtageielcdebjlaaGreatDoorPk7
import Derived.StillTailTactics
-- RowEv
namespace Go.Proofs.YtageielcdebjlaaGreatDoor
open Go.RowKit

/-- The cells of some events. -/
def tCells (ts : List (Ev × Value × Value)) : List Value := ts.flatMap fun t => (evCells t.1 t.2.1 t.2.2).toList
theorem tCells_len : ∀ ts : List (Ev × Value × Value), (tCells ts).length = ts.length * 13
  | [] => rfl
  | t :: r => by
    show ((evCells t.1 t.2.1 t.2.2).toList ++ tCells r).length = _
    rw [List.length_append, tCells_len r, List.length_cons]
    show 13 + _ = _
    omega
theorem tCells_get : ∀ (ts : List (Ev × Value × Value)) (j i : Nat) (t : Ev × Value × Value), ts[j]? = some t → i < 13 → (tCells ts)[j * 13 + i]? = (evCells t.1 t.2.1 t.2.2).toList[i]?
  | [], _, _, _, h, _ => by simp at h
  | t0 :: r, 0, i, t, h, hi => by
    simp at h; subst h
    show ((evCells t0.1 t0.2.1 t0.2.2).toList ++ tCells r)[0 * 13 + i]? = _
    rw [show 0 * 13 + i = i by omega, List.getElem?_append_left (by show i < 13; exact hi)]
  | t0 :: r, j + 1, i, t, h, hi => by
    show ((evCells t0.1 t0.2.1 t0.2.2).toList ++ tCells r)[(j + 1) * 13 + i]? = _
    rw [List.getElem?_append_right (by show 13 ≤ _; omega), show (j + 1) * 13 + i - (evCells t0.1 t0.2.1 t0.2.2).toList.length = j * 13 + i by show _ - 13 = _; omega]
    exact tCells_get r j i t (by simpa using h) hi
theorem tCells_snoc (ts : List (Ev × Value × Value)) (t : Ev × Value × Value) : tCells (ts ++ [t]) = tCells ts ++ (evCells t.1 t.2.1 t.2.2).toList := by
  unfold tCells; simp

/-- What an event refers to: rows of numbers in blocks from lo on. -/
def RefG (lo : Nat) (w : World) (t : Ev × Value × Value) : Prop := EvG t.1 ∧ RowI lo w t.2.1 t.1.days.ex ∧ RowI lo w t.2.2 t.1.days.xt
/-- The events of a drawn feed. -/
structure RowE (lo : Nat) (w : World) (v : Value) (ts : List (Ev × Value × Value)) : Prop where
  row : w.ownsRow lo 82 13 v ts.length (tCells ts)
  ref : ∀ t ∈ ts, RefG lo w t

theorem RowE.evs {lo : Nat} {w : World} {v : Value} {ts : List (Ev × Value × Value)} (h : RowE lo w v ts) : ∃ ao c, v = .slice ao (ts.map (·.1)).length c ∧ Evs w.heap.size w ao (ts.map (·.1)) := by
  rcases h.row.2 with ⟨hv, h0⟩ | ⟨g, cap, cur, hv, r2, r3, r4, r5, _⟩
  · have : ts = [] := List.eq_nil_of_length_eq_zero h0
    subst this; exact ⟨none, 0, hv, .inl rfl⟩
  · refine ⟨_, cap, by rw [hv]; simp, .inr ⟨g, 0, rfl, (Array.getElem?_eq_some_iff.1 r3).1, fun j e hj => ?_⟩⟩
    obtain ⟨t, ht, he⟩ : ∃ t, ts[j]? = some t ∧ t.1 = e := by
      rw [List.getElem?_map] at hj
      cases h2 : ts[j]? with
      | none => rw [h2] at hj; cases hj
      | some t => rw [h2] at hj; exact ⟨t, rfl, by simpa using hj⟩
    subst he; obtain ⟨hg, hx, hy⟩ := h.ref t (List.mem_of_getElem? ht)
    obtain ⟨ax, cx, e1, i1⟩ := hx.ints
    obtain ⟨ay, cy, e2, i2⟩ := hy.ints
    have hc : ∀ i u, i < 13 → (evCells t.1 t.2.1 t.2.2).toList[i]? = some u → w.cell? ⟨g, 0 + j * 13 + i, none⟩ = some u := fun i u hi hu => by
      have := h.row.cells (g := g) (by rw [hv]; rfl) (j * 13 + i) u (by rw [tCells_get ts j i t ht hi]; exact hu)
      rw [Addr.add_lit] at this
      rw [← this, show 0 + j * 13 + i = 0 + (j * 13 + i) by omega]
    refine ⟨hg.b, t.2.1, t.2.2, ⟨?_, ?_, ?_, ?_, ?_, ?_, ?_, ?_, ?_, ?_, ?_, ?_, ?_⟩, ⟨ax, cx, e1, i1⟩, ⟨ay, cy, e2, i2⟩⟩
    · exact hc 0 _ (by omega) rfl
    · exact hc 1 _ (by omega) rfl
    · exact hc 2 _ (by omega) rfl
    · exact hc 3 _ (by omega) rfl
    · exact hc 4 _ (by omega) rfl
    · exact hc 5 _ (by omega) rfl
    · exact hc 6 _ (by omega) rfl
    · exact hc 7 _ (by omega) rfl
    · exact hc 8 _ (by omega) rfl
    · exact hc 9 _ (by omega) rfl
    · exact hc 10 _ (by omega) rfl
    · exact hc 11 _ (by omega) rfl
    · exact hc 12 _ (by omega) rfl

theorem RowE.nil (lo : Nat) (w : World) : RowE lo w (.slice none 0 0) [] := ⟨World.ownsRow_nil _ _ _ _, fun t h => by cases h⟩
theorem RefG.but {b lo : Nat} {w w' : World} {t : Ev × Value × Value} (h : RefG lo w t) (hb : b < lo) (ho : But b w.heap.size w w') : RefG lo w' t := ⟨h.1, row_but h.2.1 hb ho, row_but h.2.2 hb ho⟩
theorem RefG.mono {lo lo' : Nat} {w : World} {t : Ev × Value × Value} (h : RefG lo w t) (hb : lo' ≤ lo) : RefG lo' w t := ⟨h.1, ownsRow_mono h.2.1 hb, ownsRow_mono h.2.2 hb⟩
theorem RowE.but {b lo : Nat} {w w' : World} {v : Value} {ts : List (Ev × Value × Value)} (h : RowE lo w v ts) (hb : b < lo) (ho : But b w.heap.size w w') : RowE lo w' v ts := ⟨row_but h.row hb ho, fun t ht => (h.ref t ht).but hb ho⟩
theorem RefG.set {lo : Nat} {w : World} {t : Ev × Value × Value} (h : RefG lo w t) {g : Nat} {cs : Array Value} {ty : TypeId} (hg : Blk g cs ty w) (hte : ty ≠ 3) (i : Nat) (u : Value) : RefG lo (w.setCell ⟨g, i, none⟩ u) t := ⟨h.1, row_set h.2.1 hg hte i u, row_set h.2.2 hg hte i u⟩
theorem RowE.set {lo : Nat} {w : World} {v : Value} {ts : List (Ev × Value × Value)} (h : RowE lo w v ts) {g : Nat} {cs : Array Value} {ty : TypeId} (hg : Blk g cs ty w) (hte : ty ≠ 3) (hte2 : ty ≠ 82) (i : Nat) (u : Value) : RowE lo (w.setCell ⟨g, i, none⟩ u) v ts := ⟨row_set h.row hg hte2 i u, fun t ht => (h.ref t ht).set hg hte i u⟩
theorem RefG.alloc {lo : Nat} {w : World} {t : Ev × Value × Value} (h : RefG lo w t) (o : Obj) : RefG lo (w.alloc o) t := ⟨h.1, World.ownsRow.alloc h.2.1 o, World.ownsRow.alloc h.2.2 o⟩
theorem RowE.alloc {lo : Nat} {w : World} {v : Value} {ts : List (Ev × Value × Value)} (h : RowE lo w v ts) (o : Obj) : RowE lo (w.alloc o) v ts := ⟨h.row.alloc o, fun t ht => (h.ref t ht).alloc o⟩
/-- Behind an append to the row of events: what the events refer to is kept. -/
theorem RefG.grown {lo B n k : Nat} {w w' : World} {t : Ev × Value × Value} {v : Value} {xs : List Value} (h : RefG lo w t) (hown : w.ownsRow B 82 k v n xs) (hg : w.grownBy w' v.ownBlock) : RefG lo w' t :=
  ⟨h.1, World.ownsRow.kept h.2.1 hg (row_apart_ty h.2.1 hown (by decide)), World.ownsRow.kept h.2.2 hg (row_apart_ty h.2.2 hown (by decide))⟩
theorem RowE.snoc {lo : Nat} {w w' : World} {v v' : Value} {ts : List (Ev × Value × Value)} {t : Ev × Value × Value} (h : RowE lo w v ts) (ht : RefG lo w t) (hg : w.grownBy w' v.ownBlock)
    (hrow : w'.ownsRow lo 82 13 v' (ts.length + 1) (tCells ts ++ (evCells t.1 t.2.1 t.2.2).toList)) : RowE lo w' v' (ts ++ [t]) := by
  refine ⟨by rw [tCells_snoc]; simpa using hrow, fun t' h' => ?_⟩
  rcases List.mem_append.1 h' with h' | h'
  · exact (h.ref t' h').grown h.row hg
  · rw [List.mem_singleton] at h'; subst h'; exact ht.grown h.row hg
end Go.Proofs.YtageielcdebjlaaGreatDoor

-- Inv
namespace Go.Proofs.YtageielcdebjlaaGreatDoor
open Go.RowKit

theorem filter_le' {α : Type} (p q : α → Bool) : ∀ l : List α, (∀ x ∈ l, q x = true → p x = true) → (l.filter q).length ≤ (l.filter p).length
  | [], _ => Nat.le_refl _
  | x :: r, h => by
    have ih := filter_le' p q r (fun y hy => h y (List.mem_cons_of_mem _ hy))
    have h0 := h x (List.mem_cons_self ..)
    cases hq : q x <;> cases hp : p x <;> simp [hq, hp] at h0 ⊢ <;> omega
theorem filter_lt' {α : Type} (p q : α → Bool) (i : α) (hp : p i = true) (hq : q i = false) : ∀ l : List α, (∀ x ∈ l, q x = true → p x = true) → i ∈ l → (l.filter q).length < (l.filter p).length
  | [], _, hi => by cases hi
  | x :: r, h, hi => by
    have h0 := h x (List.mem_cons_self ..)
    rcases List.mem_cons.1 hi with e | hi
    · subst e; have ih := filter_le' p q r (fun y hy => h y (List.mem_cons_of_mem _ hy))
      simp [hp, hq]; omega
    · have ih := filter_lt' p q i hp hq r (fun y hy => h y (List.mem_cons_of_mem _ hy)) hi
      cases hq2 : q x <;> cases hp2 : p x <;> simp [hq2, hp2] at h0 ⊢ <;> omega

/-- How many operations are still to come. -/
def toCome (ops : Array Oper) (listed : Array Bool) : Nat := ((List.range ops.size).filter fun i => !listed.getD i true).length

section
variable {P : Program} {ops : Array Oper} {Q : Exit → Act → World → Prop} {md : Region.Mode}
theorem ready_mem {listed : Array Bool} {i : Nat} (h : i ∈ Region.ready md ops listed) : i ∈ List.range ops.size ∧ listed.getD i true = false := by
  unfold Region.ready at h
  have := List.mem_filter.1 h
  refine ⟨this.1, ?_⟩
  have h2 := this.2; cases hl : listed.getD i true <;> simp [hl] at h2 ⊢

theorem ready_spec {listed : Array Bool} {i : Nat} (h : i ∈ Region.ready md ops listed) : i < ops.size ∧ listed.getD i true = false ∧ ∀ o, ops[i]? = some o → ∀ e ∈ o.after.toList, Region.binds md e = true → listed.getD e.on false = true := by
  obtain ⟨h1, h2⟩ := ready_mem h
  refine ⟨List.mem_range.1 h1, h2, fun o ho e he hb => ?_⟩
  unfold Region.ready at h
  have h3 := (List.mem_filter.1 h).2
  rw [ho] at h3
  simp only [Option.map_some, Option.getD_some, Bool.and_eq_true] at h3
  have h4 := (Array.all_eq_true_iff_forall_mem.1 h3.2) e (Array.mem_toList_iff.1 he)
  simpa [hb] using h4

theorem wpAny_inv {J : Array Bool → Act → World → Prop}
    (hstep : ∀ listed a w i, J listed a w → i ∈ Region.ready md ops listed → wpOp P ops Q i (J (listed.setIfInBounds i true)) a w)
    (hdone : ∀ listed a w, J listed a w → Region.ready md ops listed = [] → Q .normal a w) :
    ∀ (fuel : Nat) (listed : Array Bool) (a : Act) (w : World), J listed a w → toCome ops listed ≤ fuel → wpAny P md ops Q fuel listed a w
  | 0, listed, a, w, hJ, hf => by
    have hr : Region.ready md ops listed = [] := by
      refine List.eq_nil_iff_forall_not_mem.2 fun i hi => ?_
      obtain ⟨h1, h2⟩ := ready_mem hi
      have : i ∈ (List.range ops.size).filter fun i => !listed.getD i true := List.mem_filter.2 ⟨h1, by simp [h2]⟩
      have hp := List.length_pos_of_mem this; unfold toCome at hf
      omega
    exact ⟨hr, hdone listed a w hJ hr⟩
  | fuel + 1, listed, a, w, hJ, hf => by
    refine ⟨hdone listed a w hJ, fun i hi => wpOp_mono (fun a' w' h' => wpAny_inv hstep hdone fuel _ a' w' h' ?_) (hstep listed a w i hJ hi)⟩
    obtain ⟨h1, h2⟩ := ready_mem hi
    have hlt : i < listed.size := by
      rcases Nat.lt_or_ge i listed.size with h | h
      · exact h
      · rw [Array.getD_eq_getD_getElem?, Array.getElem?_eq_none h] at h2; cases h2
    have := filter_lt' (fun i => !listed.getD i true) (fun j => !(listed.setIfInBounds i true).getD j true) i (by simp [h2]) (by simp [hlt]) (List.range ops.size)
      (fun x _ hx => by
        by_cases e : i = x
        · subst e; simp [hlt] at hx
        · simpa [Array.getD_eq_getD_getElem?, Array.getElem?_setIfInBounds_ne e] using hx) h1
    unfold toCome at hf ⊢
    omega

/-- The post of one operation: K behind it, Q at a way out. -/
def opPost (Q : Exit → Act → World → Prop) (K : Act → World → Prop) : Exit → Act → World → Prop
  | .normal, a, w => K a w
  | e, a, w => Q e a w
theorem letsOut_opPost {K : Act → World → Prop} (h : LetsOut (opPost Q K)) : LetsOut Q := h
theorem wp_opPost {o : Oper} {a : Act} {w : World} {K : Act → World → Prop} (hh : o.wp P a w K (opPost Q K)) : o.wp P a w K Q := by
  unfold Oper.wp at *
  generalize (execOp a.eval o).run P w = r at *
  cases r with
  | ok n w' =>
    cases n <;> simp only [Oper.upon] at hh ⊢ <;>
      first
        | exact hh
        | exact Calls.mono hh (fun e w'' he => by cases e <;> first | exact he | exact letsOut_opPost he)
        | exact Rows.mono hh (fun _ _ he => he)
  | halt x w' => cases x <;> simp only [Oper.upon] at hh ⊢ <;> exact hh
theorem wpOp_of_list {o : Oper} {i : Nat} {a : Act} {w : World} {K : Act → World → Prop} (ho : ops[i]? = some o) (h : wpList P ops (opPost Q K) [o] a w) : wpOp P ops Q i K a w := by
  unfold wpOp
  rw [ho]
  unfold wpList at h
  split at h
  · rename_i hw
    simp only [hw, if_true]
    exact h.imp (fun h => wp_opPost h) (fun h => ⟨h.1, letsOut_opPost h.2⟩)
  · rename_i hw
    simp only [hw]
    exact h

/-- One operation, its post a letter. -/
theorem wpOp_of_list_any {o : Oper} {i : Nat} {a : Act} {w : World} {K : Act → World → Prop} (ho : ops[i]? = some o) (h : ∀ QQ : Exit → Act → World → Prop, (∀ a w, K a w → QQ .normal a w) → wpList P ops QQ [o] a w) : wpOp P ops Q i K a w :=
  wpOp_of_list ho (h _ (fun _ _ h => h))

/-- THE RULE: J at the start, kept by each operation that may come up, and the post where none is left. -/
theorem wp_region_inv {id : Nat} {a : Act} {w : World} (hm : P.follows .mixedOrders = true) (J : Array Bool → Act → World → Prop)
    (h0 : J (Array.replicate ops.size false) a { w with drawn := w.drawn + 1 })
    (hstep : ∀ listed a w i, J listed a w → i ∈ Region.ready .any ops listed → wpOp P ops Q i (J (listed.setIfInBounds i true)) a w)
    (hdone : ∀ listed a w, J listed a w → Region.ready .any ops listed = [] → Q .normal a w) : (Code.region id ops true).wp P Q a w :=
  wp_region_any hm (wpAny_inv hstep hdone _ _ _ _ h0 (by
    unfold toCome
    refine Nat.le_trans (List.length_filter_le _ _) ?_
    simp))
end
end Go.Proofs.YtageielcdebjlaaGreatDoor

-- Cond
namespace Go.Proofs.YtageielcdebjlaaGreatDoor
open Go.RowKit

/-- Every operation waits for operations ahead of it alone. -/
def aheadB (ops : Array Oper) : Bool := (List.range ops.size).all fun i => ((ops[i]?).map (·.after.toList.all fun e => !Region.binds .any e || decide (e.on < i))).getD true
/-- Does operation i wait for operation k, perhaps through others? -/
def needsB (ops : Array Oper) : Nat → Nat → Nat → Bool
  | 0, _, _ => false
  | f + 1, i, k => ((ops[i]?).map fun o => (o.after.toList.any fun e => Region.binds .any e && e.on == k) || (o.after.toList.any fun e => Region.binds .any e && needsB ops f e.on k)).getD false
/-- Each operation from n on waits for all ahead of it. -/
def tailB (ops : Array Oper) (n : Nat) : Bool := (List.range (ops.size - n)).all fun j => (List.range (n + j)).all fun k => needsB ops ops.size (n + j) k

section
variable {P : Program} {ops : Array Oper} {Q : Exit → Act → World → Prop} {md : Region.Mode}
theorem ready_nil {listed : Array Bool} (h : Region.ready md ops listed = []) (i : Nat) (hi : i < ops.size)
    (he : ∀ o, ops[i]? = some o → ∀ e ∈ o.after.toList, Region.binds md e = true → listed.getD e.on false = true) : listed.getD i true = true := by
  cases hl : listed.getD i true with
  | true => rfl
  | false =>
    exfalso
    have hm : i ∈ Region.ready md ops listed := by
      unfold Region.ready
      refine List.mem_filter.2 ⟨List.mem_range.2 hi, ?_⟩
      have ho : ops[i]? = some ops[i] := Array.getElem?_eq_getElem hi
      rw [ho]
      simp only [Option.map_some, Option.getD_some, Bool.and_eq_true, hl, Bool.not_false, true_and]
      refine Array.all_eq_true_iff_forall_mem.2 fun e hh => ?_
      cases hb : Region.binds md e with
      | false => simp
      | true => rw [he _ ho e (Array.mem_toList_iff.2 hh) hb]; simp
    rw [h] at hm; cases hm
theorem all_listed {listed : Array Bool} (h : Region.ready .any ops listed = []) (hs : listed.size = ops.size) (hw : aheadB ops = true) : ∀ i, i < ops.size → listed.getD i true = true := by
  intro i; induction i using Nat.strongRecOn with
  | _ i ih =>
    intro hi; refine ready_nil h i hi fun o ho e hh hb => ?_
    have h1 := List.all_eq_true.1 hw i (List.mem_range.2 hi)
    rw [ho] at h1
    simp only [Option.map_some, Option.getD_some] at h1
    have h2 := List.all_eq_true.1 h1 e hh; rw [hb] at h2
    have h2 := of_decide_eq_true (by simpa using h2)
    have h3 := ih e.on h2 (by omega)
    have h4 : e.on < listed.size := by omega
    simp only [Array.getD_eq_getD_getElem?, Array.getElem?_eq_getElem h4, Option.getD_some] at h3 ⊢
    exact h3

/-- What is listed has all listed that it waits for. -/
def closedL (ops : Array Oper) (listed : Array Bool) : Prop := ∀ i, i < ops.size → listed.getD i false = true → ∀ o, ops[i]? = some o → ∀ e ∈ o.after.toList, Region.binds .any e = true → listed.getD e.on false = true
theorem needs_listed {listed : Array Bool} (hc : closedL ops listed) (hw : aheadB ops = true) : ∀ (f i k : Nat), i < ops.size → needsB ops f i k = true →
    (∀ o, ops[i]? = some o → ∀ e ∈ o.after.toList, Region.binds .any e = true → listed.getD e.on false = true) → listed.getD k false = true
  | 0, _, _, _, h, _ => by cases h
  | f + 1, i, k, hi, h, he => by
    have ho : ops[i]? = some ops[i] := Array.getElem?_eq_getElem hi
    unfold needsB at h
    rw [ho] at h
    simp only [Option.map_some, Option.getD_some, Bool.or_eq_true] at h
    rcases h with h | h
    · obtain ⟨e, h1, h2⟩ := List.any_eq_true.1 h
      rw [Bool.and_eq_true] at h2
      have := he _ ho e h1 h2.1
      rwa [beq_iff_eq.1 h2.2] at this
    · obtain ⟨e, h1, h2⟩ := List.any_eq_true.1 h
      rw [Bool.and_eq_true] at h2
      have h3 := he _ ho e h1 h2.1
      have h4 := List.all_eq_true.1 hw i (List.mem_range.2 hi)
      rw [ho] at h4
      simp only [Option.map_some, Option.getD_some] at h4
      have h5 := List.all_eq_true.1 h4 e h1; rw [h2.1] at h5
      have h5 := of_decide_eq_true (by simpa using h5)
      exact needs_listed hc hw f e.on k (by omega) h2.2 (hc e.on (by omega) h3)
theorem tail_needs {n : Nat} (hl : tailB ops n = true) {m k : Nat} (hn : n ≤ m) (hm : m < ops.size) (hk : k < m) : needsB ops ops.size m k = true := by
  have h1 := List.all_eq_true.1 hl (m - n) (List.mem_range.2 (by omega))
  rw [show n + (m - n) = m by omega] at h1
  exact List.all_eq_true.1 h1 k (List.mem_range.2 hk)
theorem getD_any {listed : Array Bool} {k : Nat} {c : Bool} (d : Bool) (hk : k < listed.size) (h : listed.getD k c = true) : listed.getD k d = true := by
  simp only [Array.getD_eq_getD_getElem?, Array.getElem?_eq_getElem hk, Option.getD_some] at h ⊢
  exact h
theorem getD_set {listed : Array Bool} {i k : Nat} (c : Bool) (hi : i < listed.size) : (listed.setIfInBounds i true).getD k c = if i = k then true else listed.getD k c := by
  simp only [Array.getD_eq_getD_getElem?, Array.getElem?_setIfInBounds]
  split
  · rename_i h; subst h; simp
  · rfl
theorem closed_set {listed : Array Bool} {i : Nat} (hs : listed.size = ops.size) (hc : closedL ops listed) (hi : i < ops.size)
    (he : ∀ o, ops[i]? = some o → ∀ e ∈ o.after.toList, Region.binds .any e = true → listed.getD e.on false = true) : closedL ops (listed.setIfInBounds i true) := by
  intro j hj hl o ho e h1 h2; rw [getD_set _ (by omega)] at hl ⊢
  split
  · rfl
  · split at hl
    · rename_i h; subst h; exact he o ho e h1 h2
    · exact hc j hj hl o ho e h1 h2

theorem tail_any {l : List Oper} {a : Act} {w : World} (D : Act → World → Prop) (hD : ∀ a w, D a w → Q .normal a w) (h : ∀ QQ : Exit → Act → World → Prop, (∀ a w, D a w → QQ .normal a w) → wpList P ops QQ l a w) : wpList P ops Q l a w := h Q hD

/-- THE RULE with a tail: J for the operations ahead of n, in whatever order they come; those from n on, each of which waits for all ahead of it, in the order of the text. -/
theorem wp_region_tail {id : Nat} {a : Act} {w : World} (n : Nat) (hm : P.follows .mixedOrders = true) (J : Array Bool → Act → World → Prop)
    (hn : n < ops.size) (hw : aheadB ops = true) (hl : tailB ops n = true)
    (h0 : J (Array.replicate ops.size false) a { w with drawn := w.drawn + 1 })
    (hJ : ∀ listed a w, J listed a w → listed.size = ops.size ∧ ∀ k, n ≤ k → k < ops.size → listed.getD k true = false)
    (hstep : ∀ listed a w i, J listed a w → i < n → listed.getD i true = false → (∀ o, ops[i]? = some o → ∀ e ∈ o.after.toList, Region.binds .any e = true → listed.getD e.on false = true) → wpOp P ops Q i (J (listed.setIfInBounds i true)) a w)
    (htail : ∀ listed a w, J listed a w → (∀ i, i < n → listed.getD i true = true) → wpList P ops Q (ops.toList.drop n) a w) : (Code.region id ops true).wp P Q a w := by
  have hrun : ∀ listed a w, J listed a w → (∀ i, i < n → listed.getD i true = true) → wpOps P ops Q (List.range' n (ops.size - n)) a w := by
    intro listed a w h h2; have := wpOps_eq_wpList (P := P) (ops := ops) (Q := Q) (ops.toList.drop n) n (by intro j; simp)
    rw [List.length_drop, Array.length_toList] at this
    rw [this]
    exact htail listed a w h h2
  refine wp_region_inv hm (fun listed a w => closedL ops listed ∧ listed.size = ops.size ∧ (J listed a w ∨ ∃ m, n ≤ m ∧ m ≤ ops.size ∧ (∀ k, k < ops.size → listed.getD k true = decide (k < m)) ∧ wpOps P ops Q (List.range' m (ops.size - m)) a w)) ?_ ?_ ?_
  · refine ⟨?_, by simp, .inl h0⟩
    intro i hi hl2; exfalso
    rw [Array.getD_eq_getD_getElem?, Array.getElem?_eq_getElem (by simpa using hi)] at hl2
    simp at hl2
  · rintro listed a x i ⟨hc, hs, h⟩ hi
    obtain ⟨h1, h2, h3⟩ := ready_spec hi
    have hc' := closed_set hs hc h1 h3; have hs' : (listed.setIfInBounds i true).size = ops.size := by simpa using hs
    -- an operation of the tail comes up behind all ahead of it
    have hbehind : n ≤ i → ∀ k, k < i → listed.getD k true = true := fun hge k hk => getD_any true (by omega) (needs_listed hc hw ops.size i k h1 (tail_needs hl hge h1 hk) h3)
    have hone : ∀ m, n ≤ m → m < ops.size → (∀ k, k < ops.size → listed.getD k true = decide (k < m)) → i = m := by
      intro m hm1 hm2 hlst; have h4 := hlst i h1; rw [h2] at h4
      have h5 : m ≤ i := by have := (decide_eq_false_iff_not.1 h4.symm); omega
      rcases Nat.lt_or_ge m i with h6 | h6
      · have h7 := hbehind (by omega) m h6
        rw [hlst m hm2] at h7
        exact absurd (of_decide_eq_true h7) (Nat.lt_irrefl _)
      · omega
    have hnext : ∀ m, i = m → m < ops.size → (∀ k, k < ops.size → listed.getD k true = decide (k < m)) → ∀ k, k < ops.size → (listed.setIfInBounds i true).getD k true = decide (k < m + 1) := by
      intro m him hm2 hlst k hk; rw [getD_set _ (by omega)]
      split
      · rename_i h; subst h; subst him; simp
      · rename_i hne
        rw [hlst k hk]
        have : (k < m) ↔ (k < m + 1) := by omega
        simp [this]
    rcases h with h | ⟨m, hm1, hm2, hlst, hrest⟩
    · rcases Nat.lt_or_ge i n with hlt | hge
      · exact wpOp_mono (fun _ _ h => ⟨hc', hs', .inl h⟩) (hstep listed a x i h hlt h2 h3)
      · have hlst : ∀ k, k < ops.size → listed.getD k true = decide (k < n) := by
          intro k hk; rcases Nat.lt_or_ge k n with hk2 | hk2
          · rw [hbehind hge k (by omega)]; simp [hk2]
          · rw [(hJ _ _ _ h).2 k hk2 hk]; simp; omega
        have hin := hone n (Nat.le_refl _) hn hlst
        have hr := hrun listed a x h (fun k hk => by rw [hlst k (by omega)]; simp [hk])
        rw [show ops.size - n = (ops.size - (n + 1)) + 1 by omega, List.range'_succ, wpOps_cons] at hr
        rw [hin] at hnext hc' hs' ⊢
        exact wpOp_mono (fun _ _ h => ⟨hc', hs', .inr ⟨n + 1, by omega, by omega, hnext n rfl hn hlst, h⟩⟩) hr
    · have hm3 : m < ops.size := by
        rcases Nat.lt_or_ge m ops.size with h | h
        · exact h
        · have := hlst i h1; rw [h2] at this; have := decide_eq_false_iff_not.1 this.symm; omega
      have him := hone m hm1 hm3 hlst; rw [show ops.size - m = (ops.size - (m + 1)) + 1 by omega, List.range'_succ, wpOps_cons] at hrest
      rw [him] at hnext hc' hs' ⊢
      exact wpOp_mono (fun _ _ h => ⟨hc', hs', .inr ⟨m + 1, by omega, by omega, hnext m rfl hm3 hlst, h⟩⟩) hrest
  · rintro listed a x ⟨-, hs, h⟩ hr
    have hall := all_listed hr hs hw; rcases h with h | ⟨m, hm1, hm2, hlst, hrest⟩
    · have h1 := (hJ _ _ _ h).2 n (Nat.le_refl _) hn
      rw [hall n hn] at h1; cases h1
    · have hm3 : m = ops.size := by
        rcases Nat.lt_or_ge m ops.size with h | h
        · have h1 := hall m h; rw [hlst m h] at h1
          exact absurd (of_decide_eq_true h1) (Nat.lt_irrefl _)
        · omega
      subst hm3; simpa [wpOps] using hrest
end

/-- Every block from B on is as it was. -/
def Kept (B : Nat) (w w' : World) : Prop := ∀ g cs ty, B ≤ g → Blk g cs ty w → Blk g cs ty w'
theorem Kept.refl (B : Nat) (w : World) : Kept B w w := fun _ _ _ _ h => h
theorem Kept.alloc (B : Nat) (w : World) (o : Obj) : Kept B w (w.alloc o) := fun _ _ _ _ h => h.alloc o
theorem Kept.only {b B : Nat} {w w' : World} (h : Only b w w') (hb : b < B) : Kept B w w' := fun _ _ _ hg hk => hk.only h (by omega)
theorem Kept.but {b B : Nat} {w w' : World} (h : But b w.heap.size w w') (hb : b < B) : Kept B w w' := fun _ _ _ hg hk => hk.but h (by omega)

/-- What a drawn region has done so far: it has rolled the dice in block b, and made blocks. -/
structure Sofar (b : Nat) (w w' : World) : Prop where
  but : But b w.heap.size w w'
  dice : Dice b w'
theorem dice_draw {b : Nat} {w : World} (h : Dice b w) : Dice b w.drew := h.kept h.lt (below_drw (Below.refl _ w))
theorem but_draw {b B : Nat} {w w1 : World} (h : But b B w w1) : But b B w w1.drew := h.trans (But.of_below (below_drw (Below.refl _ w1)))
theorem Sofar.start {b : Nat} {w : World} (h : Dice b w) : Sofar b w w.drew := ⟨but_draw (But.refl b _ w), dice_draw h⟩
theorem Sofar.refl {b : Nat} {w : World} (h : Dice b w) : Sofar b w w := ⟨But.refl b _ w, h⟩
theorem Sofar.alloc {b : Nat} {w w' : World} (h : Sofar b w w') (o : Obj) : Sofar b w (w'.alloc o) := ⟨but_alloc h.but h.but.size o, dice_alloc h.dice o⟩
theorem Sofar.only {b : Nat} {w w' w'' : World} (h : Sofar b w w') (hd : Dice b w'') (ho : Only b w' w'') : Sofar b w w'' := ⟨but_only h.but ho, hd⟩
theorem Sofar.then {b : Nat} {w w' w'' : World} (h : Sofar b w w') (hd : Dice b w'') (ho : But b w'.heap.size w' w'') : Sofar b w w'' := ⟨but_then h.but ho h.but.size, hd⟩
theorem Sofar.set {b g : Nat} {w w' : World} (h : Sofar b w w') (hg : w.heap.size ≤ g) (hb : b < g) (i : Nat) (u : Value) : Sofar b w (w'.setCell ⟨g, i, none⟩ u) := ⟨but_set h.but hg, dice_set h.dice hb⟩
theorem Sofar.blk {b g : Nat} {w w' : World} {cs : Array Value} {ty : TypeId} (h : Sofar b w w') (hk : Blk g cs ty w) (hg : g ≠ b) : Blk g cs ty w' := hk.but h.but hg
theorem Sofar.trans {b : Nat} {w w' w'' : World} (h : Sofar b w w') (k : Sofar b w' w'') : Sofar b w w'' := ⟨but_then h.but k.but h.but.size, k.dice⟩
theorem Blk.new' {g : Nat} (w : World) (cs : Array Value) (ty : TypeId) (h : g = w.heap.size) : Blk g cs ty (w.alloc (.cells cs ty)) := by subst h; exact Blk.new w cs ty
theorem row_kept {w w' : World} {B k : Nat} {e : TypeId} {v : Value} {n : Nat} {xs : List Value} (h : w.ownsRow B e k v n xs) (hk : Kept B w w') : w'.ownsRow B e k v n xs := by
  refine ⟨h.1, ?_⟩
  rcases h.2 with h1 | ⟨g, cap, cur, r1, r2, r3, r4⟩
  · exact .inl h1
  · exact .inr ⟨g, cap, cur, r1, r2, hk g _ _ r2 r3, r4⟩
theorem evCells_one (e : Ev) (p p' : Option Addr) (n n' c c' : Nat) : ∀ u ∈ (evCells e (.slice p n c) (.slice p' n' c')).toList, u.oneCell' = true := by
  intro u hu; simp only [evCells, List.mem_cons, List.not_mem_nil, or_false] at hu
  rcases hu with rfl | rfl | rfl | rfl | rfl | rfl | rfl | rfl | rfl | rfl | rfl | rfl | rfl <;> rfl
theorem infoEv : (Tryz.prog.info? 82).map (fun i => (i.zero, i.size, i.bytes)) = some (some (.agg #[.string ⟨#[]⟩, .int .i64 0, .bool false, .int .i64 0, .int .i64 0, .int .i64 0, .int .i64 0, .slice none 0 0, .slice none 0 0, .int .i64 0, .int .i64 0, .string ⟨#[]⟩, .string ⟨#[]⟩]), 13, 160) := by kernel_rfl
theorem infoSh : (Tryz.prog.info? 137).map (fun i => (i.zero, i.size, i.bytes)) = some (some (.agg #[.int .i64 0, .int .i64 0]), 2, 16) := by kernel_rfl
theorem one_byte_blk {w : World} {g : Nat} {c : UInt8} (h : Blk g #[.int .u8 c.toNat] 5 w) : (convert 76 9 (.slice (some ⟨g, 0, none⟩) 1 1)).run Tryz.prog w = .ok (.string ⟨#[c]⟩) w :=
  string_of_row (B := 0) (l := [c]) ⟨rfl, .inr ⟨g, 1, _, rfl, Nat.zero_le _, h, Nat.le_refl _, by decide, rfl, rfl⟩⟩
theorem byte_of (m : Int) (h0 : 0 ≤ m) (h1 : m < 256) : m = ((UInt8.ofNat m.toNat).toNat : Int) := by
  rw [UInt8.toNat_ofNat_of_lt' (show m.toNat < UInt8.size by show m.toNat < 256; omega)]
  omega
theorem blk_cells {w : World} {g : Nat} {cs : Array Value} {ty : TypeId} (h : Blk g cs ty w) (j : Nat) (u : Value) (hj : cs.toList[j]? = some u) : w.cell? ((⟨g, 0, none⟩ : Addr).add j) = some u := by
  rw [Addr.add_lit, h.cell]
  simpa using hj
end Go.Proofs.YtageielcdebjlaaGreatDoor
namespace Go.Proofs.YtageielcdebjlaaGreatDoor
open Go.RowKit

/-- What a drawn region has done so far: it has made blocks. -/
structure Made (w w' : World) : Prop where
  below : Below w.heap.size w w'
theorem Made.start (w : World) : Made w w.drew := ⟨below_drw (Below.refl _ w)⟩
theorem Made.then {w w1 w2 : World} (h : Made w w1) (k : Below w1.heap.size w1 w2) : Made w w2 := ⟨below_then h.below k⟩
theorem Made.alloc {w w1 : World} (h : Made w w1) (o : Obj) : Made w (w1.alloc o) := h.then (below_box _ _)
theorem Made.blk {w w1 : World} (h : Made w w1) {g : Nat} {cs : Array Value} {ty : TypeId} (k : Blk g cs ty w) : Blk g cs ty w1 := k.below h.below k.lt
theorem row_made {w w' : World} {B k : Nat} {e : TypeId} {v : Value} {n : Nat} {xs : List Value} (h : w.ownsRow B e k v n xs) (hb : Below w.heap.size w w') : w'.ownsRow B e k v n xs := by
  refine ⟨h.1, ?_⟩
  rcases h.2 with h1 | ⟨g, cap, cur, r1, r2, r3, r4⟩
  · exact .inl h1
  · exact .inr ⟨g, cap, cur, r1, r2, (hb.block g (Array.getElem?_eq_some_iff.1 r3).1).trans r3, r4⟩
theorem Kept.made {B : Nat} {w w' : World} (h : Below w.heap.size w w') : Kept B w w' := fun _ _ _ _ hk => hk.below h hk.lt

/-- A block of thirteen cells filled with an event. -/
theorem fillEv {g : Nat} {w : World} {x0 x1 x2 x3 x4 x5 x6 x7 x8 x9 x10 x11 x12 : Value} (h : Blk g #[x0, x1, x2, x3, x4, x5, x6, x7, x8, x9, x10, x11, x12] 82 w) (e : Ev) (v v' : Value) :
    ∃ W, W = ((((((((((((w.setCell ⟨g, 0, none⟩ (.string e.uid)).setCell ⟨g, 1, none⟩ (.int .i64 e.seq)).setCell ⟨g, 2, none⟩ (.bool e.canc)).setCell ⟨g, 3, none⟩ (.int .i64 e.days.first)).setCell ⟨g, 4, none⟩ (.int .i64 e.days.last)).setCell ⟨g, 5, none⟩ (.int .i64 e.days.every)).setCell ⟨g, 6, none⟩ (.int .i64 e.days.wd)).setCell ⟨g, 7, none⟩ v).setCell ⟨g, 8, none⟩ v').setCell ⟨g, 9, none⟩ (.int .i64 e.start)).setCell ⟨g, 10, none⟩ (.int .i64 e.mins)).setCell ⟨g, 11, none⟩ (.string e.summ)).setCell ⟨g, 12, none⟩ (.string e.loc) ∧
      Blk g (evCells e v v') 82 W ∧ (∀ lo v xs, RowI lo w v xs → RowI lo W v xs) ∧ (∀ B w0, B ≤ g → Below B w0 w → Below B w0 W) :=
  ⟨setAll w g 0 (evCells e v v').toList, rfl, Blk.puts (evCells e v v').toList [] [x0, x1, x2, x3, x4, x5, x6, x7, x8, x9, x10, x11, x12] [] w h rfl, fun _ _ _ hx => row_setAll (by decide) _ 0 w _ hx h, fun _ _ hB hb => below_setAll hB _ 0 w hb⟩
end Go.Proofs.YtageielcdebjlaaGreatDoor
namespace Go.Proofs.YtageielcdebjlaaGreatDoor
open Go.RowKit

/-- What is told of an event that takes the place of another. -/
def toldV (old now : Bool) : Int := if now && old then 0 else if now then 3 else if old then 1 else 2
set_option maxHeartbeats 4000000 in
set_option maxRecDepth 100000 in
theorem told83 (o n : Ev) (p1 p2 p3 p4 : Option Addr) (n1 n2 n3 n4 c1 c2 c3 c4 : Nat) (w : World) :
    Calls Tryz.prog 83 #[evVal o (.slice p1 n1 c1) (.slice p2 n2 c2), evVal n (.slice p3 n3 c3) (.slice p4 n4 c4)] w fun e w' => e = .returned (.int .i64 (toldV o.canc n.canc)) ∧ Below w.heap.size w w' := by
  obtain ⟨u, s, oc, d, st, mi, su, lo⟩ := o; obtain ⟨u', s', nc, d', st', mi', su', lo'⟩ := n; unfold evVal evCells
  cases oc <;> cases nc
  all_goals
    go_enter Tryz.func83, Tryz.ntmps83
    go_wp2_with fail
    go_ret; exact ⟨rfl, (below_box _ _).trans ((below_box _ _).mono (by simp))⟩

/-- Where an event with an identifier stands; -1: nowhere. -/
def findFrom (u : ByteArray) : List Ev → Int → Int
  | [], _ => -1
  | e :: r, k => if e.uid = u then k else findFrom u r (k + 1)

end Go.Proofs.YtageielcdebjlaaGreatDoor
namespace Go.Proofs.YtageielcdebjlaaGreatDoor
open Go.RowKit

deriving instance DecidableEq for Ev

theorem text_ne {x y : ByteArray} (he : ¬ x = y) : (x.toList == y.toList) = false := by
  rw [beq_eq_false_iff_ne]; intro h; rw [Lib.toList_data, Lib.toList_data] at h; exact he (ByteArray.ext (Array.toList_inj.mp h))
end Go.Proofs.YtageielcdebjlaaGreatDoor
namespace Go.Proofs.YtageielcdebjlaaGreatDoor
open Go.RowKit

/-- A notice: its kind, the event's identifier and number. -/
structure Nt where
  kind : Int
  uid : ByteArray
  seq : Int
  deriving DecidableEq

end Go.Proofs.YtageielcdebjlaaGreatDoor
namespace Go.Proofs.YtageielcdebjlaaGreatDoor
open Go.RowKit

/-- Is what a reader holds valid? -/
def rdOk (v : Int) (es : List Ev) : Bool := !decide (v < 0 ∨ 64 < v) && !decide (256 < (es.length : Int)) && decide (evsV v none es = 0)
theorem feed_rd (n : ByteArray) (v : Int) (es : List Ev) (hc : Tt.code n.data.toList = true) : decide (feedV n v es = 0) = rdOk v es := by
  unfold feedV rdOk
  rw [if_neg (by rw [hc]; simp)]
  by_cases h1 : v < 0 ∨ 64 < v
  · rw [if_pos h1]; simp [h1]
  · rw [if_neg h1]
    by_cases h2 : 256 < (es.length : Int)
    · rw [if_pos h2]; simp [h2]
    · rw [if_neg h2]; simp [h1, h2]

set_option maxHeartbeats 4000000 in
set_option maxRecDepth 100000 in
theorem valid24 (v s : Int) (es : List Ev) (ao : Option Addr) (c : Nat) (B : Nat) (w : World) (hB : B ≤ w.heap.size) (hE : Evs B w ao es) (hn : es.length ≤ 4611686018427387903) :
    Calls Tryz.prog 24 #[.agg #[.int .i64 v, .int .i64 s, .slice ao es.length c]] w fun e w' => e = .returned (.bool (rdOk v es)) ∧ Below w.heap.size w w' := by
  have hbx := below_box w (.cells #[.int .i64 v, .int .i64 s, .slice ao es.length c] 24)
  have HB := Lib.hid hbx; have HE := Lib.hid (hE.below (hbx.mono hB))
  clear hE hbx; go_enter Tryz.func24, Tryz.ntmps24
  go_wp2_with fail
  refine (valid46 ⟨#[114, 101, 97, 100, 101, 114]⟩ v es ao c B _ (by simp; omega) HE.out hn).mono ?_
  rintro e w1 ⟨rfl, hb1⟩; have HB1 := Lib.hid (HB.out.trans (hb1.mono (by simp; try omega)))
  clear hb1; have HR := Lib.hid (feed_rd ⟨#[114, 101, 97, 100, 101, 114]⟩ v es (by decide))
  by_cases h : feedV ⟨#[114, 101, 97, 100, 101, 114]⟩ v es = 0
  · have HR2 := Lib.hid (show rdOk v es = true from by rw [← HR.out]; simpa using h)
    rw [h]
    clear h; go_wp2_with fail
    go_ret; exact ⟨ret_bool HR2.out.symm, HB1.out⟩
  · have HR2 := Lib.hid (show rdOk v es = false from by rw [← HR.out]; simpa using h)
    have hb : (feedV ⟨#[114, 101, 97, 100, 101, 114]⟩ v es == 0) = false := by simpa using h
    clear h; go_wp2_with fail
    go_ret; exact ⟨ret_bool (by rw [HR2.out]), HB1.out⟩

end Go.Proofs.YtageielcdebjlaaGreatDoor
