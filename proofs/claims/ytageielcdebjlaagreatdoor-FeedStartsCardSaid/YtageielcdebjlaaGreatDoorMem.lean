/- Blocks and rows in memory: what a store, an append and a draw of the dice leave as it was. No function of the program in sight. Condition: none. -/
import Derived.Test.YtageielcdebjlaaGreatDoorDaysAll
import Derived.Test.YtageielcdebjlaaGreatDoorEvW
import Derived.Maps.AppendAt
import Derived.Deep.RegionHeld3
namespace Go.Proofs.YtageielcdebjlaaGreatDoor
open Go.RowKit

/-- Block g holds these cells. -/
def Blk (g : Nat) (cs : Array Value) (ty : TypeId) (w : World) : Prop := w.heap[g]? = some (.cells cs ty (0, 0))
theorem Blk.lt {g : Nat} {cs : Array Value} {ty : TypeId} {w : World} (h : Blk g cs ty w) : g < w.heap.size := (Array.getElem?_eq_some_iff.1 h).1
theorem Blk.new (w : World) (cs : Array Value) (ty : TypeId) : Blk w.heap.size cs ty (w.alloc (.cells cs ty)) := heap_alloc_new w _
theorem Blk.alloc {g : Nat} {cs : Array Value} {ty : TypeId} {w : World} (h : Blk g cs ty w) (o : Obj) : Blk g cs ty (w.alloc o) := (Lib.alloc_old w o g h.lt).trans h
theorem Blk.cell {g : Nat} {cs : Array Value} {ty : TypeId} {w : World} (h : Blk g cs ty w) (i : Nat) : w.cell? ⟨g, i, none⟩ = cs[i]? := by rw [Lib.cell_of_heap h]
theorem Blk.frozen {g : Nat} {cs : Array Value} {ty : TypeId} {w : World} (h : Blk g cs ty w) (i : Nat) : w.frozen? ⟨g, i, none⟩ = false := by simp [World.frozen?, show w.heap[g]? = _ from h]
theorem Blk.set {g : Nat} {cs : Array Value} {ty : TypeId} {w : World} (h : Blk g cs ty w) (i : Nat) (u : Value) : Blk g (cs.setIfInBounds i u) ty (w.setCell ⟨g, i, none⟩ u) := by
  unfold Blk at h ⊢
  simp [World.setCell, Array.getElem?_modify, h]
theorem Blk.set_other {g g' : Nat} {cs : Array Value} {ty : TypeId} {w : World} (h : Blk g cs ty w) (hne : g ≠ g') (i : Nat) (u : Value) : Blk g cs ty (w.setCell ⟨g', i, none⟩ u) :=
  (Below.heap_setCell _ _ _ _ hne).trans h
theorem Blk.only {b g : Nat} {cs : Array Value} {ty : TypeId} {w w' : World} (h : Blk g cs ty w) (ho : Only b w w') (hne : g ≠ b) : Blk g cs ty w' := (ho.2.2.2.2 g hne).trans h
theorem Blk.but {b g : Nat} {cs : Array Value} {ty : TypeId} {w w' : World} (h : Blk g cs ty w) (ho : But b w.heap.size w w') (hne : g ≠ b) : Blk g cs ty w' := (ho.block g h.lt hne).trans h
theorem Blk.below {B g : Nat} {cs : Array Value} {ty : TypeId} {w w' : World} (h : Blk g cs ty w) (ho : Below B w w') (hB : g < B) : Blk g cs ty w' := (ho.block g hB).trans h
theorem Blk.draw {g : Nat} {cs : Array Value} {ty : TypeId} {w : World} (h : Blk g cs ty w) : Blk g cs ty w.drew := h
theorem Blk.grown {g : Nat} {cs : Array Value} {ty : TypeId} {w w' : World} (h : Blk g cs ty w) {B n k : Nat} {e : TypeId} {v : Value} {xs : List Value} (hown : w.ownsRow B e k v n xs) (hg : w.grownBy w' v.ownBlock) (hte : ty ≠ e) : Blk g cs ty w' := by
  refine (hg.block g h.lt ?_).trans h
  intro e1
  rcases hown.2 with ⟨rfl, _⟩ | ⟨g', cap, cur, rfl, _, hgb, _⟩
  · cases e1
  · simp only [Value.ownBlock, Option.some.injEq] at e1
    subst e1
    rw [show w.heap[g]? = _ from h] at hgb
    simp only [Option.some.injEq, Obj.cells.injEq] at hgb
    exact hte hgb.2.1
/-- Two blocks of different types are two blocks. -/
theorem Blk.ne {g g' : Nat} {cs cs' : Array Value} {ty ty' : TypeId} {w : World} (h : Blk g cs ty w) (h' : Blk g' cs' ty' w) (hne : ty ≠ ty') : g ≠ g' := by
  intro e; subst e
  have h' : some (Obj.cells cs ty (0, 0)) = some (.cells cs' ty' (0, 0)) := (show w.heap[g]? = _ from h).symm.trans h'
  simp only [Option.some.injEq, Obj.cells.injEq] at h'
  exact hne h'.2.1

theorem row_set {w : World} {B k : Nat} {e : TypeId} {v : Value} {n : Nat} {xs : List Value} (h : w.ownsRow B e k v n xs) {g : Nat} {cs : Array Value} {ty : TypeId} (hg : Blk g cs ty w) (hte : ty ≠ e) (i : Nat) (u : Value) : (w.setCell ⟨g, i, none⟩ u).ownsRow B e k v n xs := by
  refine ⟨h.1, ?_⟩
  rcases h.2 with h1 | ⟨g', cap, cur, r1, r2, r3, r4⟩
  · exact .inl h1
  · exact .inr ⟨g', cap, cur, r1, r2, (Below.heap_setCell _ _ _ _ (Ne.symm (hg.ne (ty' := e) r3 hte))).trans r3, r4⟩
theorem row_apart_ty {w : World} {B B' k k' : Nat} {e e' : TypeId} {v v' : Value} {n n' : Nat} {xs xs' : List Value} (h : w.ownsRow B e k v n xs) (h' : w.ownsRow B' e' k' v' n' xs') (hte : e ≠ e') : v.ownBlock = none ∨ v.ownBlock ≠ v'.ownBlock := by
  rcases h.2 with ⟨rfl, _⟩ | ⟨g, cap, cur, rfl, _, hgb, _⟩
  · exact .inl rfl
  · right
    rcases h'.2 with ⟨rfl, _⟩ | ⟨g', cap', cur', rfl, _, hgb', _⟩
    · simp [Value.ownBlock]
    · simp only [Value.ownBlock, ne_eq, Option.some.injEq]
      exact Blk.ne (w := w) hgb hgb' hte
/-- Where an appended row lies: apart from another row as before. -/
theorem apart_next {w : World} {B k n : Nat} {e : TypeId} {v v' u : Value} {xs : List Value} (hu : w.ownsRow B e k u n xs) (h : v.ownBlock = none ∨ v.ownBlock ≠ u.ownBlock) (hat : v'.ownBlock = v.ownBlock ∨ v'.ownBlock = some w.heap.size) : v'.ownBlock = none ∨ v'.ownBlock ≠ u.ownBlock := by
  rcases hat with e1 | e1
  · rw [e1]; exact h
  · right; rw [e1]; intro e2
    exact absurd (hu.lt _ e2.symm).2 (Nat.lt_irrefl _)
theorem apart_comm {u v : Value} (h : v.ownBlock = none ∨ v.ownBlock ≠ u.ownBlock) : u.ownBlock = none ∨ u.ownBlock ≠ v.ownBlock := by
  cases hu : u.ownBlock with
  | none => exact .inl rfl
  | some a =>
    right
    rcases h with h | h
    · rw [h]; simp
    · rw [← hu]; exact Ne.symm h

theorem but_set {b B g i : Nat} {w w1 : World} {u : Value} (h : But b B w w1) (hg : B ≤ g) : But b B w (w1.setCell ⟨g, i, none⟩ u) := h.trans (But.of_below ((Below.refl _ w1).setCell hg _))
theorem but_alloc {b B : Nat} {w w1 : World} (h : But b B w w1) (hB : B ≤ w1.heap.size) (o : Obj) : But b B w (w1.alloc o) := h.trans (But.of_below ((Below.refl _ w1).alloc hB _))
theorem but_only {b B : Nat} {w w1 w2 : World} (h : But b B w w1) (ho : Only b w1 w2) : But b B w w2 := h.trans ho.but
theorem but_then {b B : Nat} {w w1 w2 : World} (h : But b B w w1) (k : But b w1.heap.size w1 w2) (hB : B ≤ w1.heap.size) : But b B w w2 := h.trans ⟨k.os, k.tape, k.output, k.size, fun i hi hne => k.block i (Nat.lt_of_lt_of_le hi hB) hne⟩
theorem but_below {b B : Nat} {w w1 w2 : World} (h : But b B w w1) (k : Below B w1 w2) : But b B w w2 := h.trans (But.of_below k)
theorem but_grown {b B n k : Nat} {w w1 w2 : World} {e : TypeId} {v : Value} {xs : List Value} (h : But b B w w1) (hown : w1.ownsRow B e k v n xs) (hB : B ≤ w1.heap.size) (hg : w1.grownBy w2 v.ownBlock) : But b B w w2 :=
  h.trans (But.of_below ((Below.refl _ w1).grown hg hB (fun k hk => (hown.lt k hk).1)))
theorem dice_set {b g i : Nat} {w : World} {u : Value} (h : Dice b w) (hg : b < g) : Dice b (w.setCell ⟨g, i, none⟩ u) := h.kept (Nat.lt_succ_self b) ((Below.refl _ w).setCell hg _)
theorem dice_alloc {b : Nat} {w : World} (h : Dice b w) (o : Obj) : Dice b (w.alloc o) := h.kept h.lt (below_box _ _)
theorem dice_grown {b B n k : Nat} {w w2 : World} {e : TypeId} {v : Value} {xs : List Value} (h : Dice b w) (hown : w.ownsRow B e k v n xs) (hb : b < B) (hB : B ≤ w.heap.size) (hg : w.grownBy w2 v.ownBlock) : Dice b w2 :=
  h.kept hb ((Below.refl _ w).grown hg hB (fun k hk => (hown.lt k hk).1))
theorem row_but {b B k : Nat} {w w' : World} {e : TypeId} {v : Value} {n : Nat} {xs : List Value} (h : w.ownsRow B e k v n xs) (hb : b < B) (ho : But b w.heap.size w w') : w'.ownsRow B e k v n xs := by
  refine ⟨h.1, ?_⟩
  rcases h.2 with h1 | ⟨g, cap, cur, r1, r2, r3, r4⟩
  · exact .inl h1
  · exact .inr ⟨g, cap, cur, r1, r2, (ho.block g (Array.getElem?_eq_some_iff.1 r3).1 (by omega)).trans r3, r4⟩

/-- Some cells of block g, from place o on, written one after the other. -/
def setAll (w : World) (g : Nat) : Nat → List Value → World
  | _, [] => w
  | o, v :: r => setAll (w.setCell ⟨g, o, none⟩ v) g (o + 1) r
theorem size_setAll {g : Nat} : ∀ (vs : List Value) (o : Nat) (w : World), (setAll w g o vs).heap.size = w.heap.size
  | [], _, _ => rfl
  | _ :: r, o, w => (size_setAll r (o + 1) _).trans (by simp)
theorem Blk.puts {g : Nat} {ty : TypeId} : ∀ (vs pre mid post : List Value) (w : World), Blk g (pre ++ mid ++ post).toArray ty w → mid.length = vs.length → Blk g (pre ++ vs ++ post).toArray ty (setAll w g pre.length vs)
  | [], pre, mid, post, w, h, hl => by
    rw [List.eq_nil_of_length_eq_zero hl] at h; exact h
  | v :: r, pre, [], post, w, h, hl => by cases hl
  | v :: r, pre, m :: mid, post, w, h, hl => by
    have h1 := h.set pre.length v
    have e : (pre ++ (m :: mid) ++ post).toArray.setIfInBounds pre.length v = ((pre ++ [v]) ++ mid ++ post).toArray := by
      simp
    rw [e] at h1
    have h2 := Blk.puts r (pre ++ [v]) mid post _ h1 (by simpa using hl)
    rw [show (pre ++ [v]).length = pre.length + 1 by simp] at h2
    show Blk g _ ty (setAll (w.setCell ⟨g, pre.length, none⟩ v) g (pre.length + 1) r)
    simpa using h2
theorem Blk.puts_other {g g' : Nat} {cs : Array Value} {ty : TypeId} (hne : g ≠ g') : ∀ (vs : List Value) (o : Nat) (w : World), Blk g cs ty w → Blk g cs ty (setAll w g' o vs)
  | [], _, _, h => h
  | v :: r, o, _, h => Blk.puts_other hne r (o + 1) _ (h.set_other hne o v)
theorem row_setAll {B k : Nat} {e : TypeId} {v : Value} {n : Nat} {xs : List Value} {g : Nat} {ty : TypeId} (hte : ty ≠ e) : ∀ (vs : List Value) (o : Nat) (w : World) (cs : Array Value), w.ownsRow B e k v n xs → Blk g cs ty w → (setAll w g o vs).ownsRow B e k v n xs
  | [], _, _, _, h, _ => h
  | u :: r, o, _, _, h, hg => row_setAll hte r (o + 1) _ _ (row_set h hg hte o u) (hg.set o u)
theorem but_setAll {b B g : Nat} (hg : B ≤ g) {w : World} : ∀ (vs : List Value) (o : Nat) (w1 : World), But b B w w1 → But b B w (setAll w1 g o vs)
  | [], _, _, h => h
  | _ :: r, o, _, h => but_setAll hg r (o + 1) _ (but_set h hg)
theorem dice_setAll {b g : Nat} (hg : b < g) : ∀ (vs : List Value) (o : Nat) (w : World), Dice b w → Dice b (setAll w g o vs)
  | [], _, _, h => h
  | _ :: r, o, _, h => dice_setAll hg r (o + 1) _ (dice_set h hg)
theorem below_setAll {B g : Nat} (hg : B ≤ g) {w : World} : ∀ (vs : List Value) (o : Nat) (w1 : World), Below B w w1 → Below B w (setAll w1 g o vs)
  | [], _, _, h => h
  | _ :: r, o, _, h => below_setAll hg r (o + 1) _ (h.setCell hg _)

/-- The numbers of a row that lies in a block from lo on. -/
def RowI (lo : Nat) (w : World) (v : Value) (xs : List Int) : Prop := w.ownsRow lo 3 1 v xs.length (xs.map (Value.int .i64))
theorem RowI.one (lo : Nat) (w : World) (x : Int) (h : lo ≤ w.heap.size) : RowI lo (w.alloc (.cells #[.int .i64 x] 3)) (.slice (some ⟨w.heap.size, 0, none⟩) 1 1) [x] :=
  ⟨rfl, .inr ⟨w.heap.size, 1, #[.int .i64 x], rfl, h, heap_alloc_new w _, Nat.le_refl _, by decide, rfl, rfl⟩⟩
theorem RowI.nil (lo : Nat) (w : World) : RowI lo w (.slice none 0 0) [] := World.ownsRow_nil _ _ _ _
theorem RowI.slice {lo : Nat} {w : World} {v : Value} {xs : List Int} (h : RowI lo w v xs) : ∃ ao c, v = .slice ao xs.length c := by
  rcases h.2 with ⟨hv, h0⟩ | ⟨g, cap, cur, hv, _⟩
  · exact ⟨none, 0, by rw [hv, h0]⟩
  · exact ⟨_, _, hv⟩
theorem RowI.ints {lo : Nat} {w : World} {v : Value} {xs : List Int} (h : RowI lo w v xs) : ∃ ao c, v = .slice ao xs.length c ∧ Ints w.heap.size w ao xs := by
  rcases h.2 with ⟨hv, h0⟩ | ⟨g, cap, cur, hv, r2, r3, r4, r5, _⟩
  · refine ⟨none, 0, by rw [hv, h0], fun j x hj => ?_⟩
    rw [List.eq_nil_of_length_eq_zero h0] at hj; simp at hj
  · refine ⟨_, cap, hv, fun j x hj => ⟨_, rfl, (Array.getElem?_eq_some_iff.1 r3).1, ?_⟩⟩
    subst hv
    exact h.cells (g := g) rfl j _ (by simp [hj])
theorem RowI.snoc {lo : Nat} {w : World} {v : Value} {xs : List Int} {x : Int} (h : w.ownsRow lo 3 1 v (xs.length + 1) (xs.map (Value.int .i64) ++ [.int .i64 x])) : RowI lo w v (xs ++ [x]) := by
  unfold RowI; simpa using h
end Go.Proofs.YtageielcdebjlaaGreatDoor
