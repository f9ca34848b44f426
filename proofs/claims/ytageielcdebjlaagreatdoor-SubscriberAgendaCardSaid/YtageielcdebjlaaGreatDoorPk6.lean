/- Blocks and rows in memory: what a store, an append and a draw of the dice leave as it was. No function of the program in sight. Condition: none. timetablemore.Series: its contract: a valid series in new memory, with bounds. -/
import Derived.Test.YtageielcdebjlaaGreatDoorDaysAll
import Derived.Test.YtageielcdebjlaaGreatDoorPk5
import Derived.Maps.AppendAt
import Derived.Deep.RegionHeld3
namespace Go.Proofs.YtageielcdebjlaaGreatDoor
open Go.RowKit

/-- Block g holds these cells. -/
def Blk (g : Nat) (cs : Array Value) (ty : TypeId) (w : World) : Prop := w.heap[g]? = some (.cells cs ty (0, 0))
theorem Blk.lt {g : Nat} {cs : Array Value} {ty : TypeId} {w : World} (h : Blk g cs ty w) : g < w.heap.size := (Array.getElem?_eq_some_iff.1 h).1
theorem Blk.new (w : World) (cs : Array Value) (ty : TypeId) : Blk w.heap.size cs ty (w.alloc (.cells cs ty)) := heap_alloc_new w _
theorem Blk.alloc {g : Nat} {cs : Array Value} {ty : TypeId} {w : World} (h : Blk g cs ty w) (o : Obj) : Blk g cs ty (w.alloc o) := (Lib.alloc_old w o g h.lt).trans h
theorem Blk.cell {g : Nat} {cs : Array Value} {ty : TypeId} {w : World} (h : Blk g cs ty w) (i : Nat) : w.cell? ⟨g, i, none⟩ = cs[i]? := by rw [Lib.cell_of_heap h]
theorem Blk.frozen {g : Nat} {cs : Array Value} {ty : TypeId} {w : World} (h : Blk g cs ty w) (i : Nat) : w.frozen? ⟨g, i, none⟩ = false := by simp [World.frozen?, show w.heap[g]? = _ from h]
theorem Blk.set {g : Nat} {cs : Array Value} {ty : TypeId} {w : World} (h : Blk g cs ty w) (i : Nat) (u : Value) : Blk g (cs.setIfInBounds i u) ty (w.setCell ⟨g, i, none⟩ u) := by
  unfold Blk at h ⊢
  simp [World.setCell, Array.getElem?_modify, h]
theorem Blk.set_other {g g' : Nat} {cs : Array Value} {ty : TypeId} {w : World} (h : Blk g cs ty w) (hne : g ≠ g') (i : Nat) (u : Value) : Blk g cs ty (w.setCell ⟨g', i, none⟩ u) :=
  (Below.heap_setCell _ _ _ _ hne).trans h
theorem Blk.only {b g : Nat} {cs : Array Value} {ty : TypeId} {w w' : World} (h : Blk g cs ty w) (ho : Only b w w') (hne : g ≠ b) : Blk g cs ty w' := (ho.2.2.2.2 g hne).trans h
theorem Blk.but {b g : Nat} {cs : Array Value} {ty : TypeId} {w w' : World} (h : Blk g cs ty w) (ho : But b w.heap.size w w') (hne : g ≠ b) : Blk g cs ty w' := (ho.block g h.lt hne).trans h
theorem Blk.below {B g : Nat} {cs : Array Value} {ty : TypeId} {w w' : World} (h : Blk g cs ty w) (ho : Below B w w') (hB : g < B) : Blk g cs ty w' := (ho.block g hB).trans h
theorem Blk.grown {g : Nat} {cs : Array Value} {ty : TypeId} {w w' : World} (h : Blk g cs ty w) {B n k : Nat} {e : TypeId} {v : Value} {xs : List Value} (hown : w.ownsRow B e k v n xs) (hg : w.grownBy w' v.ownBlock) (hte : ty ≠ e) : Blk g cs ty w' := by
  refine (hg.block g h.lt ?_).trans h
  intro e1; rcases hown.2 with ⟨rfl, _⟩ | ⟨g', cap, cur, rfl, _, hgb, _⟩
  · cases e1
  · simp only [Value.ownBlock, Option.some.injEq] at e1
    subst e1; rw [show w.heap[g]? = _ from h] at hgb
    simp only [Option.some.injEq, Obj.cells.injEq] at hgb
    exact hte hgb.2.1
/-- Two blocks of different types are two blocks. -/
theorem Blk.ne {g g' : Nat} {cs cs' : Array Value} {ty ty' : TypeId} {w : World} (h : Blk g cs ty w) (h' : Blk g' cs' ty' w) (hne : ty ≠ ty') : g ≠ g' := by
  intro e; subst e
  have h' : some (Obj.cells cs ty (0, 0)) = some (.cells cs' ty' (0, 0)) := (show w.heap[g]? = _ from h).symm.trans h'
  simp only [Option.some.injEq, Obj.cells.injEq] at h'
  exact hne h'.2.1

theorem row_set {w : World} {B k : Nat} {e : TypeId} {v : Value} {n : Nat} {xs : List Value} (h : w.ownsRow B e k v n xs) {g : Nat} {cs : Array Value} {ty : TypeId} (hg : Blk g cs ty w) (hte : ty ≠ e) (i : Nat) (u : Value) : (w.setCell ⟨g, i, none⟩ u).ownsRow B e k v n xs := by
  refine ⟨h.1, ?_⟩
  rcases h.2 with h1 | ⟨g', cap, cur, r1, r2, r3, r4⟩
  · exact .inl h1
  · exact .inr ⟨g', cap, cur, r1, r2, (Below.heap_setCell _ _ _ _ (Ne.symm (hg.ne (ty' := e) r3 hte))).trans r3, r4⟩
theorem row_apart_ty {w : World} {B B' k k' : Nat} {e e' : TypeId} {v v' : Value} {n n' : Nat} {xs xs' : List Value} (h : w.ownsRow B e k v n xs) (h' : w.ownsRow B' e' k' v' n' xs') (hte : e ≠ e') : v.ownBlock = none ∨ v.ownBlock ≠ v'.ownBlock := by
  rcases h.2 with ⟨rfl, _⟩ | ⟨g, cap, cur, rfl, _, hgb, _⟩
  · exact .inl rfl
  · right
    rcases h'.2 with ⟨rfl, _⟩ | ⟨g', cap', cur', rfl, _, hgb', _⟩
    · simp [Value.ownBlock]
    · simp only [Value.ownBlock, ne_eq, Option.some.injEq]
      exact Blk.ne (w := w) hgb hgb' hte
/-- Where an appended row lies: apart from another row as before. -/
theorem apart_next {w : World} {B k n : Nat} {e : TypeId} {v v' u : Value} {xs : List Value} (hu : w.ownsRow B e k u n xs) (h : v.ownBlock = none ∨ v.ownBlock ≠ u.ownBlock) (hat : v'.ownBlock = v.ownBlock ∨ v'.ownBlock = some w.heap.size) : v'.ownBlock = none ∨ v'.ownBlock ≠ u.ownBlock := by
  rcases hat with e1 | e1
  · rw [e1]; exact h
  · right; rw [e1]; intro e2
    exact absurd (hu.lt _ e2.symm).2 (Nat.lt_irrefl _)
theorem apart_comm {u v : Value} (h : v.ownBlock = none ∨ v.ownBlock ≠ u.ownBlock) : u.ownBlock = none ∨ u.ownBlock ≠ v.ownBlock := by
  cases hu : u.ownBlock with
  | none => exact .inl rfl
  | some a =>
    right
    rcases h with h | h
    · rw [h]; simp
    · rw [← hu]; exact Ne.symm h

theorem but_set {b B g i : Nat} {w w1 : World} {u : Value} (h : But b B w w1) (hg : B ≤ g) : But b B w (w1.setCell ⟨g, i, none⟩ u) := h.trans (But.of_below ((Below.refl _ w1).setCell hg _))
theorem but_alloc {b B : Nat} {w w1 : World} (h : But b B w w1) (hB : B ≤ w1.heap.size) (o : Obj) : But b B w (w1.alloc o) := h.trans (But.of_below ((Below.refl _ w1).alloc hB _))
theorem but_only {b B : Nat} {w w1 w2 : World} (h : But b B w w1) (ho : Only b w1 w2) : But b B w w2 := h.trans ho.but
theorem but_then {b B : Nat} {w w1 w2 : World} (h : But b B w w1) (k : But b w1.heap.size w1 w2) (hB : B ≤ w1.heap.size) : But b B w w2 := h.trans ⟨k.os, k.tape, k.output, k.size, fun i hi hne => k.block i (Nat.lt_of_lt_of_le hi hB) hne⟩
theorem but_below {b B : Nat} {w w1 w2 : World} (h : But b B w w1) (k : Below B w1 w2) : But b B w w2 := h.trans (But.of_below k)
theorem but_grown {b B n k : Nat} {w w1 w2 : World} {e : TypeId} {v : Value} {xs : List Value} (h : But b B w w1) (hown : w1.ownsRow B e k v n xs) (hB : B ≤ w1.heap.size) (hg : w1.grownBy w2 v.ownBlock) : But b B w w2 :=
  h.trans (But.of_below ((Below.refl _ w1).grown hg hB (fun k hk => (hown.lt k hk).1)))
theorem dice_set {b g i : Nat} {w : World} {u : Value} (h : Dice b w) (hg : b < g) : Dice b (w.setCell ⟨g, i, none⟩ u) := h.kept (Nat.lt_succ_self b) ((Below.refl _ w).setCell hg _)
theorem dice_alloc {b : Nat} {w : World} (h : Dice b w) (o : Obj) : Dice b (w.alloc o) := h.kept h.lt (below_box _ _)
theorem dice_grown {b B n k : Nat} {w w2 : World} {e : TypeId} {v : Value} {xs : List Value} (h : Dice b w) (hown : w.ownsRow B e k v n xs) (hb : b < B) (hB : B ≤ w.heap.size) (hg : w.grownBy w2 v.ownBlock) : Dice b w2 :=
  h.kept hb ((Below.refl _ w).grown hg hB (fun k hk => (hown.lt k hk).1))
theorem row_but {b B k : Nat} {w w' : World} {e : TypeId} {v : Value} {n : Nat} {xs : List Value} (h : w.ownsRow B e k v n xs) (hb : b < B) (ho : But b w.heap.size w w') : w'.ownsRow B e k v n xs := by
  refine ⟨h.1, ?_⟩
  rcases h.2 with h1 | ⟨g, cap, cur, r1, r2, r3, r4⟩
  · exact .inl h1
  · exact .inr ⟨g, cap, cur, r1, r2, (ho.block g (Array.getElem?_eq_some_iff.1 r3).1 (by omega)).trans r3, r4⟩

/-- Some cells of block g, from place o on, written one after the other. -/
def setAll (w : World) (g : Nat) : Nat → List Value → World
  | _, [] => w
  | o, v :: r => setAll (w.setCell ⟨g, o, none⟩ v) g (o + 1) r
theorem size_setAll {g : Nat} : ∀ (vs : List Value) (o : Nat) (w : World), (setAll w g o vs).heap.size = w.heap.size
  | [], _, _ => rfl
  | _ :: r, o, w => (size_setAll r (o + 1) _).trans (by simp)
theorem Blk.puts {g : Nat} {ty : TypeId} : ∀ (vs pre mid post : List Value) (w : World), Blk g (pre ++ mid ++ post).toArray ty w → mid.length = vs.length → Blk g (pre ++ vs ++ post).toArray ty (setAll w g pre.length vs)
  | [], pre, mid, post, w, h, hl => by
    rw [List.eq_nil_of_length_eq_zero hl] at h; exact h
  | v :: r, pre, [], post, w, h, hl => by cases hl
  | v :: r, pre, m :: mid, post, w, h, hl => by
    have h1 := h.set pre.length v
    have e : (pre ++ (m :: mid) ++ post).toArray.setIfInBounds pre.length v = ((pre ++ [v]) ++ mid ++ post).toArray := by
      simp
    rw [e] at h1
    have h2 := Blk.puts r (pre ++ [v]) mid post _ h1 (by simpa using hl)
    rw [show (pre ++ [v]).length = pre.length + 1 by simp] at h2
    show Blk g _ ty (setAll (w.setCell ⟨g, pre.length, none⟩ v) g (pre.length + 1) r)
    simpa using h2
theorem Blk.puts_other {g g' : Nat} {cs : Array Value} {ty : TypeId} (hne : g ≠ g') : ∀ (vs : List Value) (o : Nat) (w : World), Blk g cs ty w → Blk g cs ty (setAll w g' o vs)
  | [], _, _, h => h
  | v :: r, o, _, h => Blk.puts_other hne r (o + 1) _ (h.set_other hne o v)
theorem row_setAll {B k : Nat} {e : TypeId} {v : Value} {n : Nat} {xs : List Value} {g : Nat} {ty : TypeId} (hte : ty ≠ e) : ∀ (vs : List Value) (o : Nat) (w : World) (cs : Array Value), w.ownsRow B e k v n xs → Blk g cs ty w → (setAll w g o vs).ownsRow B e k v n xs
  | [], _, _, _, h, _ => h
  | u :: r, o, _, _, h, hg => row_setAll hte r (o + 1) _ _ (row_set h hg hte o u) (hg.set o u)
theorem but_setAll {b B g : Nat} (hg : B ≤ g) {w : World} : ∀ (vs : List Value) (o : Nat) (w1 : World), But b B w w1 → But b B w (setAll w1 g o vs)
  | [], _, _, h => h
  | _ :: r, o, _, h => but_setAll hg r (o + 1) _ (but_set h hg)
theorem dice_setAll {b g : Nat} (hg : b < g) : ∀ (vs : List Value) (o : Nat) (w : World), Dice b w → Dice b (setAll w g o vs)
  | [], _, _, h => h
  | _ :: r, o, _, h => dice_setAll hg r (o + 1) _ (dice_set h hg)
theorem below_setAll {B g : Nat} (hg : B ≤ g) {w : World} : ∀ (vs : List Value) (o : Nat) (w1 : World), Below B w w1 → Below B w (setAll w1 g o vs)
  | [], _, _, h => h
  | _ :: r, o, _, h => below_setAll hg r (o + 1) _ (h.setCell hg _)

/-- The numbers of a row that lies in a block from lo on. -/
def RowI (lo : Nat) (w : World) (v : Value) (xs : List Int) : Prop := w.ownsRow lo 3 1 v xs.length (xs.map (Value.int .i64))
theorem RowI.one (lo : Nat) (w : World) (x : Int) (h : lo ≤ w.heap.size) : RowI lo (w.alloc (.cells #[.int .i64 x] 3)) (.slice (some ⟨w.heap.size, 0, none⟩) 1 1) [x] :=
  ⟨rfl, .inr ⟨w.heap.size, 1, #[.int .i64 x], rfl, h, heap_alloc_new w _, Nat.le_refl _, by decide, rfl, rfl⟩⟩
theorem RowI.nil (lo : Nat) (w : World) : RowI lo w (.slice none 0 0) [] := World.ownsRow_nil _ _ _ _
theorem RowI.slice {lo : Nat} {w : World} {v : Value} {xs : List Int} (h : RowI lo w v xs) : ∃ ao c, v = .slice ao xs.length c := by
  rcases h.2 with ⟨hv, h0⟩ | ⟨g, cap, cur, hv, _⟩
  · exact ⟨none, 0, by rw [hv, h0]⟩
  · exact ⟨_, _, hv⟩
theorem RowI.ints {lo : Nat} {w : World} {v : Value} {xs : List Int} (h : RowI lo w v xs) : ∃ ao c, v = .slice ao xs.length c ∧ Ints w.heap.size w ao xs := by
  rcases h.2 with ⟨hv, h0⟩ | ⟨g, cap, cur, hv, r2, r3, r4, r5, _⟩
  · refine ⟨none, 0, by rw [hv, h0], fun j x hj => ?_⟩
    rw [List.eq_nil_of_length_eq_zero h0] at hj; simp at hj
  · refine ⟨_, cap, hv, fun j x hj => ⟨_, rfl, (Array.getElem?_eq_some_iff.1 r3).1, ?_⟩⟩
    subst hv; exact h.cells (g := g) rfl j _ (by simp [hj])
theorem RowI.snoc {lo : Nat} {w : World} {v : Value} {xs : List Int} {x : Int} (h : w.ownsRow lo 3 1 v (xs.length + 1) (xs.map (Value.int .i64) ++ [.int .i64 x])) : RowI lo w v (xs ++ [x]) := by
  unfold RowI; simpa using h
end Go.Proofs.YtageielcdebjlaaGreatDoor
namespace Go.Proofs.YtageielcdebjlaaGreatDoor
open Go.RowKit

set_option maxHeartbeats 16000000 in
set_option maxRecDepth 100000 in
theorem series152v (b : Nat) (w : World) (hd : Dice b w) :
    Calls Tryz.prog 152 #[.pointer (some ⟨b, 0, none⟩)] w fun e w' => ∃ (s : Tt.Ser) (v v' : Value), e = .returned (serVal s v v') ∧ RowI w.heap.size w' v s.ex ∧ RowI w.heap.size w' v' s.xt ∧ SerG s ∧ Tt.serV s = 0 ∧ Dice b w' ∧ But b w.heap.size w w' := by
  obtain ⟨i0, hi, hz0, hz1, hz2⟩ := info_parts infoInt
  have hblt := hd.lt; have R0 := Blk.new w #[.int .i64 0, .int .i64 0, .int .i64 0, .int .i64 0, .slice none 0 0, .slice none 0 0] 80
  have K0 := but_alloc (But.refl b w.heap.size w) (Nat.le_refl _) (.cells #[.int .i64 0, .int .i64 0, .int .i64 0, .int .i64 0, .slice none 0 0, .slice none 0 0] 80)
  go_enter Tryz.func152, Tryz.ntmps152
  go_wp2_with fail
  refine (next_any b 30000 _ (hd.kept hblt (below_box _ _)) (by omega) (by omega)).mono ?_
  rintro e w1 ⟨a1, rfl, h0, h1, -, hd1, ho1⟩; have h1 := h1 (by omega)
  have R1 := R0.only ho1 (by omega)
  have K1 := but_only K0 ho1; clear ho1 R0 K0; go_wp2_with fail
  refine (next_any b 4 _ hd1 (by omega) (by omega)).mono ?_
  rintro e w2 ⟨a2, rfl, g0, g1, -, hd2, ho2⟩; have g1 := g1 (by omega)
  have R2 := R1.only ho2 (by omega)
  have K2 := but_only K1 ho2; clear ho2 hd1 R1 K1; go_wp2_with fail
  refine (next_any b 128 _ hd2 (by omega) (by omega)).mono ?_
  rintro e w3 ⟨a3, rfl, k0, k1, -, hd3, ho3⟩; have k1 := k1 (by omega)
  have R3 := R2.only ho3 (by omega)
  have K3 := but_only K2 ho3; clear ho3 hd2 R2 K2; go_wp2_with fail
  have hRS := R3.lt; have S4 := Blk.new w3 #[.int .i64 (7 + a1), .int .i64 0, .int .i64 (1 + a2), .int .i64 a3, .slice none 0 0, .slice none 0 0] 80
  have R4 := R3.alloc (.cells #[.int .i64 (7 + a1), .int .i64 0, .int .i64 (1 + a2), .int .i64 a3, .slice none 0 0, .slice none 0 0] 80)
  have K4 := but_alloc K3 K3.size (.cells #[.int .i64 (7 + a1), .int .i64 0, .int .i64 (1 + a2), .int .i64 a3, .slice none 0 0, .slice none 0 0] 80)
  have D4 := dice_alloc hd3 (.cells #[.int .i64 (7 + a1), .int .i64 0, .int .i64 (1 + a2), .int .i64 a3, .slice none 0 0, .slice none 0 0] 80)
  obtain ⟨S, hS⟩ : ∃ S, S = w3.heap.size := ⟨_, rfl⟩
  obtain ⟨w4, hw4⟩ : ∃ w4, w4 = w3.alloc (.cells #[.int .i64 (7 + a1), .int .i64 0, .int .i64 (1 + a2), .int .i64 a3, .slice none 0 0, .slice none 0 0] 80) := ⟨_, rfl⟩
  rw [← hS] at S4 hRS ⊢
  rw [← hw4] at S4 R4 K4 D4 ⊢
  clear hS hw4 R3 K3 hd3 w3; have HS4 := Lib.hid S4; have hSR : S ≠ w.heap.size := by omega
  have hRSle : w.heap.size ≤ S := by omega
  have hSb' : b < S := by omega
  have HD4 := Lib.hid D4; have hSb : S ≠ b := by omega
  have c0 := S4.cell 0; simp only [List.getElem?_toArray, List.getElem?_cons_zero] at c0
  have HKP : Hid (∀ W' : World, But b w4.heap.size w4 W' → W'.cell? ⟨S, 0, none⟩ = some (.int .i64 (7 + a1)) ∧ W'.cell? ⟨S, 1, none⟩ = some (.int .i64 0) ∧ W'.frozen? ⟨S, 1, none⟩ = false) := Lib.hid fun W' hW => by
    have hb := HS4.out.but hW hSb; exact ⟨hb.cell 0, hb.cell 1, hb.frozen 1⟩
  have HK2 : Hid (∀ (W' : World) (u : Value), But b w4.heap.size w4 W' → (W'.setCell ⟨S, 1, none⟩ u).cell? ⟨S, 0, none⟩ = some (.int .i64 (7 + a1))) := Lib.hid fun W' u hW => ((HS4.out.but hW hSb).set 1 u).cell 0
  go_region_held3 (fun W' => W'.cell? ⟨S, 0, none⟩ = some (.int .i64 (7 + a1))) (first | exact (HKP.out _ (But.refl _ _ _)).1 | exact (HKP.out _ (But.of_below (below_drw (Below.refl _ _)))).1 | exact (HKP.out _ ((But.of_below (below_drw (Below.refl _ _))).trans ho5.but)).1 | exact HK2.out _ _ ((But.of_below (below_drw (Below.refl _ _))).trans ho5.but)) (first | (go_at_call 21; refine (next_any b 80 w4.drew (HD4.out.kept HD4.out.lt (below_drw (Below.refl _ _))) (by omega) (by omega)).mono ?_; rintro x w5 ⟨a4, rfl, m0, m1, -, hd5, ho5⟩; obtain ⟨-, q1, q2⟩ := HKP.out _ ((But.of_below (below_drw (Below.refl _ _))).trans ho5.but); have hwm : IntKind.i64.wrap (7 + a1 + a4) = 7 + a1 + a4 := (by have := m1 (by omega); rw [IntKind.wrap_i64]; omega)))
  have m2 := m1 (by omega)
  have K6 := but_set (i := 1) (u := .int .i64 (7 + a1 + a4)) (but_only K4 ho5) hRSle
  have S6 := (S4.only ho5 hSb).set 1 (.int .i64 (7 + a1 + a4))
  have R6 := (R4.only ho5 (by omega)).set_other hSR.symm 1 (.int .i64 (7 + a1 + a4))
  have D6 := dice_set (i := 1) (u := .int .i64 (7 + a1 + a4)) hd5 hSb'
  obtain ⟨f, hf⟩ : ∃ f, f = 7 + a1 := ⟨_, rfl⟩
  obtain ⟨l, hl⟩ : ∃ l, l = f + a4 := ⟨_, rfl⟩
  obtain ⟨ev, hev⟩ : ∃ ev, ev = 1 + a2 := ⟨_, rfl⟩
  obtain ⟨w6, hw6⟩ : ∃ w6, w6 = w5.setCell ⟨S, 1, none⟩ (.int .i64 l) := ⟨_, rfl⟩
  rw [← hf] at S6 R6 K6 D6 ⊢
  rw [← hl] at S6 R6 K6 D6 ⊢
  rw [← hev] at S6 ⊢
  rw [← hw6] at S6 R6 K6 D6 ⊢
  have S6 : Blk S #[.int .i64 f, .int .i64 l, .int .i64 ev, .int .i64 a3, .slice none 0 0, .slice none 0 0] 80 w6 := S6
  have f0 : 7 ≤ f := by omega
  have f1 : f ≤ 30007 := by omega
  have l0 : f ≤ l := by omega
  have l1 : l ≤ f + 80 := by omega
  have ev0 : 1 ≤ ev := by omega
  have ev1 : ev ≤ 4 := by omega
  clear hf hl hev hw6 ho5 hd5 HS4 HD4 HKP HK2 S4 R4 K4 D4 c0 m1 m2 m0 h0 h1 g0 g1; have HS6 := Lib.hid S6; have HR6 := Lib.hid R6; have HD6 := Lib.hid D6; have HK6 := Lib.hid K6; clear R6 D6 K6; have hm0 := Int.emod_nonneg (f + 5) (show (7 : Int) ≠ 0 by omega)
  have hm1 := Int.emod_lt_of_pos (f + 5) (show (0 : Int) < 7 by omega)
  obtain ⟨c0, c1, c2, c3, c4, c5⟩ := And.intro (S6.cell 0) (And.intro (S6.cell 1) (And.intro (S6.cell 2) (And.intro (S6.cell 3) (And.intro (S6.cell 4) (S6.cell 5)))))
  simp only [List.getElem?_toArray, List.getElem?_cons_zero, List.getElem?_cons_succ] at c0 c1 c2 c3 c4 c5
  clear S6; go_wp2_with fail
  obtain ⟨M, hM⟩ : ∃ M, M = f - (f + 5) % 7 := ⟨_, rfl⟩
  rw [← hM]; have hM0 : M ≤ f := by omega
  have hM1 : f ≤ M + 6 := by omega
  have HM := Lib.hid hM; clear hM hm0 hm1 c0 c1 c2 c3 c4 c5; have hRb : w.heap.size ≠ b := by omega
  go_loopw [5] (fun dv wr => ∃ (d : Int) (vx vt : Value) (xs ts : List Int), dv = .int .i64 d ∧ f ≤ d ∧ d ≤ l + 1 ∧ Hid (Blk S #[.int .i64 f, .int .i64 l, .int .i64 ev, .int .i64 a3, vx, vt] 80 wr) ∧ Hid (Blk w.heap.size #[.int .i64 0, .int .i64 0, .int .i64 0, .int .i64 0, .slice none 0 0, .slice none 0 0] 80 wr) ∧ RowI w.heap.size wr vx xs ∧ RowI w.heap.size wr vt ts ∧ (vx.ownBlock = none ∨ vx.ownBlock ≠ vt.ownBlock) ∧ (xs.length : Int) + ts.length ≤ d - f ∧ Hid (Tt.Part f l ev a3 true d xs) ∧ Hid (Tt.Part f l ev a3 false d ts) ∧ Hid (Dice b wr) ∧ Hid (But b w.heap.size w wr)) (fun dv _ => (l + 1 - intOf dv).toNat)
  case atStart => exact ⟨_, .slice none 0 0, .slice none 0 0, [], [], rfl, by omega, by omega, HS6, HR6, RowI.nil _ _, RowI.nil _ _, .inl rfl, by simp, Lib.hid (Tt.Part.nil _ _ _ _ _ _), Lib.hid (Tt.Part.nil _ _ _ _ _ _), HD6, HK6⟩
  case round =>
    clear HS6 HR6 HD6 HK6; obtain ⟨d, vx, vt, xs, ts, rfl, d0, d1, HS, HR, hX, hT, hap, hxl, HPx, HPt, HDr, HK⟩ := hrel; obtain ⟨c0, c1, c2, c3, c4, c5⟩ := And.intro (HS.out.cell 0) (And.intro (HS.out.cell 1) (And.intro (HS.out.cell 2) (And.intro (HS.out.cell 3) (And.intro (HS.out.cell 4) (HS.out.cell 5)))))
    simp only [List.getElem?_toArray, List.getElem?_cons_zero, List.getElem?_cons_succ] at c0 c1 c2 c3 c4 c5
    have hm0 := Int.emod_nonneg (d + 5) (show (7 : Int) ≠ 0 by omega)
    have hm1 := Int.emod_lt_of_pos (d + 5) (show (0 : Int) < 7 by omega)
    have hq0 : 0 ≤ (d - M) / 7 := by omega
    have hq1 : (d - M) / 7 ≤ 6000 := by omega
    have hz := Int.emod_nonneg ((d - M) / 7) (show ev ≠ 0 by omega)
    have hzz := Int.emod_lt_of_pos ((d - M) / 7) (show 0 < ev by omega)
    by_cases hle : d ≤ l
    · have HRG := Lib.hid (show Tt.regB ⟨f, l, ev, a3, [], []⟩ d = ((bits .and .i64 (a3 / 2 ^ ((d + 5) % 7).toNat) 1 == 1) && ((d - M) / 7 % ev == 0)) from by rw [Tt.reg_of (s := ⟨f, l, ev, a3, [], []⟩) d0 hle]; show (Tt.bit a3 (Tt.wk d) && Tt.cnt f ev d) = _; rw [Tt.cnt_of HM.out d0, ← bit_is a3 (Tt.wk d) k0 (by omega)]; rfl)
      cases hb1 : (bits .and .i64 (a3 / 2 ^ ((d + 5) % 7).toNat) 1 == 1)
      · have HRD := Lib.hid (show Tt.regB ⟨f, l, ev, a3, [], []⟩ d = false from by rw [HRG.out, hb1]; rfl)
        clear HRG; go_wp2_with fail
        refine (one_any b 9 _ HDr.out (by omega) (by omega)).mono ?_
        rintro x w7 ⟨z, rfl, hd7, ho7⟩; have S7 := HS.out.only ho7 hSb; have R7 := HR.out.only ho7 hRb; have X7 := ownsRow_only hX hblt ho7; have T7 := ownsRow_only hT hblt ho7; have K7 := but_only HK.out ho7
        have A7 := hap; have hsz7 := K7.size; clear ho7 HS HR hX hT HK HDr hap; cases z
        · go_wp2_with fail
          go_roundw
          case rel => exact ⟨d + 1, vx, vt, xs, ts, rfl, by omega, by omega, Lib.hid S7, Lib.hid R7, X7, T7, A7, by omega, Lib.hid (HPx.out.up (by omega)), Lib.hid (HPt.out.up (by omega)), Lib.hid hd7, Lib.hid K7⟩
          case measure => simp [intOf]; omega
        · obtain ⟨c0, c1, c2, c3, c4, c5⟩ := And.intro (S7.cell 0) (And.intro (S7.cell 1) (And.intro (S7.cell 2) (And.intro (S7.cell 3) (And.intro (S7.cell 4) (S7.cell 5)))))
          simp only [List.getElem?_toArray, List.getElem?_cons_zero, List.getElem?_cons_succ] at c0 c1 c2 c3 c4 c5

          go_wp2_with (at_builtin; refine wpList_append_own_at _ rfl (.tmp 67) (.tmp 69) 27 rfl w.heap.size 3 i0 (.int .i64 0) 1 8 Tryz.underlying27 hi hz0 hz1 hz2 rfl (by decide) _ _ _ rfl (T7.alloc _) ⟨w7.heap.size, 0, none⟩ 1 1 [.int .i64 d] rfl rfl (cell_one _ _ _) (by intro u hu; simp at hu; subst hu; rfl) (by unfold maxLen; omega) (by omega) (by simp; omega) ?_)
          intro v' w8 hown8 hgrow _ hat; obtain ⟨p8, q8, hv8⟩ := ownsRow_len hown8
          have S8 := (S7.alloc (.cells #[.int .i64 d] 3)).grown (T7.alloc _) hgrow (by decide)
          have R8 := (R7.alloc (.cells #[.int .i64 d] 3)).grown (T7.alloc _) hgrow (by decide)
          have O8 : RowI w.heap.size w8 vx xs := (X7.alloc _).kept hgrow A7
          have K8 := but_grown (but_alloc K7 hsz7 (.cells #[.int .i64 d] 3)) (T7.alloc _) (by simp; omega) hgrow
          have D8 := dice_grown (dice_alloc hd7 (.cells #[.int .i64 d] 3)) (T7.alloc _) hblt (by simp; omega) hgrow
          have A8 : vx.ownBlock = none ∨ vx.ownBlock ≠ v'.ownBlock := apart_comm (apart_next (X7.alloc (.cells #[.int .i64 d] 3)) (apart_comm A7) (by simpa using hat))
          have c8 := S8.cell 5; have c8f := S8.frozen 5; have S9 := S8.set 5 v'; have R9 := R8.set_other hSR.symm 5 v'
          have O9 : RowI w.heap.size (w8.setCell ⟨S, 5, none⟩ v') vx xs := row_set O8 S8 (by decide) 5 v'
          have N9 : RowI w.heap.size (w8.setCell ⟨S, 5, none⟩ v') v' (ts ++ [d]) := row_set (RowI.snoc hown8) S8 (by decide) 5 v'
          have K9 := but_set (i := 5) (u := v') K8 hRSle
          have D9 := dice_set (i := 5) (u := v') D8 hSb'
          clear hgrow hown8 hat S8 R8 O8 K8 D8 S7 R7 X7 T7 K7 hd7 A7; have HS9 := Lib.hid S9; have HR9 := Lib.hid R9; have HD9 := Lib.hid D9; have HK9 := Lib.hid K9; have HO9 := Lib.hid O9; have HN9 := Lib.hid N9; have HA9 := Lib.hid A8; clear S9 R9 D9 K9 O9 N9 A8; subst hv8; go_wp2_with fail
          go_roundw
          case rel => exact ⟨d + 1, vx, _, xs, ts ++ [d], rfl, by omega, by omega, HS9, HR9, HO9.out, HN9.out, HA9.out, by first | omega | (simp; omega), Lib.hid (HPx.out.up (by omega)), Lib.hid (HPt.out.snoc d0 hle HRD.out), HD9, HK9⟩
          case measure => simp [intOf]; omega
      · cases hq : ((d - M) / 7 % ev == 0)
        · have HRD := Lib.hid (show Tt.regB ⟨f, l, ev, a3, [], []⟩ d = false from by rw [HRG.out, hb1, hq]; rfl)
          clear HRG; go_wp2_with fail
          refine (one_any b 9 _ HDr.out (by omega) (by omega)).mono ?_
          rintro x w7 ⟨z, rfl, hd7, ho7⟩; have S7 := HS.out.only ho7 hSb; have R7 := HR.out.only ho7 hRb; have X7 := ownsRow_only hX hblt ho7; have T7 := ownsRow_only hT hblt ho7; have K7 := but_only HK.out ho7
          have A7 := hap; have hsz7 := K7.size; clear ho7 HS HR hX hT HK HDr hap; cases z
          · go_wp2_with fail
            go_roundw
            case rel => exact ⟨d + 1, vx, vt, xs, ts, rfl, by omega, by omega, Lib.hid S7, Lib.hid R7, X7, T7, A7, by omega, Lib.hid (HPx.out.up (by omega)), Lib.hid (HPt.out.up (by omega)), Lib.hid hd7, Lib.hid K7⟩
            case measure => simp [intOf]; omega
          · obtain ⟨c0, c1, c2, c3, c4, c5⟩ := And.intro (S7.cell 0) (And.intro (S7.cell 1) (And.intro (S7.cell 2) (And.intro (S7.cell 3) (And.intro (S7.cell 4) (S7.cell 5)))))
            simp only [List.getElem?_toArray, List.getElem?_cons_zero, List.getElem?_cons_succ] at c0 c1 c2 c3 c4 c5

            go_wp2_with (at_builtin; refine wpList_append_own_at _ rfl (.tmp 67) (.tmp 69) 27 rfl w.heap.size 3 i0 (.int .i64 0) 1 8 Tryz.underlying27 hi hz0 hz1 hz2 rfl (by decide) _ _ _ rfl (T7.alloc _) ⟨w7.heap.size, 0, none⟩ 1 1 [.int .i64 d] rfl rfl (cell_one _ _ _) (by intro u hu; simp at hu; subst hu; rfl) (by unfold maxLen; omega) (by omega) (by simp; omega) ?_)
            intro v' w8 hown8 hgrow _ hat; obtain ⟨p8, q8, hv8⟩ := ownsRow_len hown8
            have S8 := (S7.alloc (.cells #[.int .i64 d] 3)).grown (T7.alloc _) hgrow (by decide)
            have R8 := (R7.alloc (.cells #[.int .i64 d] 3)).grown (T7.alloc _) hgrow (by decide)
            have O8 : RowI w.heap.size w8 vx xs := (X7.alloc _).kept hgrow A7
            have K8 := but_grown (but_alloc K7 hsz7 (.cells #[.int .i64 d] 3)) (T7.alloc _) (by simp; omega) hgrow
            have D8 := dice_grown (dice_alloc hd7 (.cells #[.int .i64 d] 3)) (T7.alloc _) hblt (by simp; omega) hgrow
            have A8 : vx.ownBlock = none ∨ vx.ownBlock ≠ v'.ownBlock := apart_comm (apart_next (X7.alloc (.cells #[.int .i64 d] 3)) (apart_comm A7) (by simpa using hat))
            have c8 := S8.cell 5; have c8f := S8.frozen 5; have S9 := S8.set 5 v'; have R9 := R8.set_other hSR.symm 5 v'
            have O9 : RowI w.heap.size (w8.setCell ⟨S, 5, none⟩ v') vx xs := row_set O8 S8 (by decide) 5 v'
            have N9 : RowI w.heap.size (w8.setCell ⟨S, 5, none⟩ v') v' (ts ++ [d]) := row_set (RowI.snoc hown8) S8 (by decide) 5 v'
            have K9 := but_set (i := 5) (u := v') K8 hRSle
            have D9 := dice_set (i := 5) (u := v') D8 hSb'
            clear hgrow hown8 hat S8 R8 O8 K8 D8 S7 R7 X7 T7 K7 hd7 A7; have HS9 := Lib.hid S9; have HR9 := Lib.hid R9; have HD9 := Lib.hid D9; have HK9 := Lib.hid K9; have HO9 := Lib.hid O9; have HN9 := Lib.hid N9; have HA9 := Lib.hid A8; clear S9 R9 D9 K9 O9 N9 A8; subst hv8; go_wp2_with fail
            go_roundw
            case rel => exact ⟨d + 1, vx, _, xs, ts ++ [d], rfl, by omega, by omega, HS9, HR9, HO9.out, HN9.out, HA9.out, by first | omega | (simp; omega), Lib.hid (HPx.out.up (by omega)), Lib.hid (HPt.out.snoc d0 hle HRD.out), HD9, HK9⟩
            case measure => simp [intOf]; omega
        · have HRD := Lib.hid (show Tt.regB ⟨f, l, ev, a3, [], []⟩ d = true from by rw [HRG.out, hb1, hq]; rfl)
          clear HRG; go_wp2_with fail
          refine (one_any b 9 _ HDr.out (by omega) (by omega)).mono ?_
          rintro x w7 ⟨z, rfl, hd7, ho7⟩; have S7 := HS.out.only ho7 hSb; have R7 := HR.out.only ho7 hRb; have X7 := ownsRow_only hX hblt ho7; have T7 := ownsRow_only hT hblt ho7; have K7 := but_only HK.out ho7
          have A7 := hap; have hsz7 := K7.size; clear ho7 HS HR hX hT HK HDr hap; cases z
          · go_wp2_with fail
            go_roundw
            case rel => exact ⟨d + 1, vx, vt, xs, ts, rfl, by omega, by omega, Lib.hid S7, Lib.hid R7, X7, T7, A7, by omega, Lib.hid (HPx.out.up (by omega)), Lib.hid (HPt.out.up (by omega)), Lib.hid hd7, Lib.hid K7⟩
            case measure => simp [intOf]; omega
          · obtain ⟨c0, c1, c2, c3, c4, c5⟩ := And.intro (S7.cell 0) (And.intro (S7.cell 1) (And.intro (S7.cell 2) (And.intro (S7.cell 3) (And.intro (S7.cell 4) (S7.cell 5)))))
            simp only [List.getElem?_toArray, List.getElem?_cons_zero, List.getElem?_cons_succ] at c0 c1 c2 c3 c4 c5

            go_wp2_with (at_builtin; refine wpList_append_own_at _ rfl (.tmp 61) (.tmp 63) 27 rfl w.heap.size 3 i0 (.int .i64 0) 1 8 Tryz.underlying27 hi hz0 hz1 hz2 rfl (by decide) _ _ _ rfl (X7.alloc _) ⟨w7.heap.size, 0, none⟩ 1 1 [.int .i64 d] rfl rfl (cell_one _ _ _) (by intro u hu; simp at hu; subst hu; rfl) (by unfold maxLen; omega) (by omega) (by simp; omega) ?_)
            intro v' w8 hown8 hgrow _ hat; obtain ⟨p8, q8, hv8⟩ := ownsRow_len hown8
            have S8 := (S7.alloc (.cells #[.int .i64 d] 3)).grown (X7.alloc _) hgrow (by decide)
            have R8 := (R7.alloc (.cells #[.int .i64 d] 3)).grown (X7.alloc _) hgrow (by decide)
            have O8 : RowI w.heap.size w8 vt ts := (T7.alloc _).kept hgrow (apart_comm A7)
            have K8 := but_grown (but_alloc K7 hsz7 (.cells #[.int .i64 d] 3)) (X7.alloc _) (by simp; omega) hgrow
            have D8 := dice_grown (dice_alloc hd7 (.cells #[.int .i64 d] 3)) (X7.alloc _) hblt (by simp; omega) hgrow
            have A8 : v'.ownBlock = none ∨ v'.ownBlock ≠ vt.ownBlock := apart_next (T7.alloc (.cells #[.int .i64 d] 3)) A7 (by simpa using hat)
            have c8 := S8.cell 4; have c8f := S8.frozen 4; have S9 := S8.set 4 v'; have R9 := R8.set_other hSR.symm 4 v'
            have O9 : RowI w.heap.size (w8.setCell ⟨S, 4, none⟩ v') vt ts := row_set O8 S8 (by decide) 4 v'
            have N9 : RowI w.heap.size (w8.setCell ⟨S, 4, none⟩ v') v' (xs ++ [d]) := row_set (RowI.snoc hown8) S8 (by decide) 4 v'
            have K9 := but_set (i := 4) (u := v') K8 hRSle
            have D9 := dice_set (i := 4) (u := v') D8 hSb'
            clear hgrow hown8 hat S8 R8 O8 K8 D8 S7 R7 X7 T7 K7 hd7 A7; have HS9 := Lib.hid S9; have HR9 := Lib.hid R9; have HD9 := Lib.hid D9; have HK9 := Lib.hid K9; have HO9 := Lib.hid O9; have HN9 := Lib.hid N9; have HA9 := Lib.hid A8; clear S9 R9 D9 K9 O9 N9 A8; subst hv8; go_wp2_with fail
            go_roundw
            case rel => exact ⟨d + 1, _, vt, xs ++ [d], ts, rfl, by omega, by omega, HS9, HR9, HN9.out, HO9.out, HA9.out, by first | omega | (simp; omega), Lib.hid (HPx.out.snoc d0 hle HRD.out), Lib.hid (HPt.out.up (by omega)), HD9, HK9⟩
            case measure => simp [intOf]; omega
    · obtain ⟨r0, r1, r2, r3, r4, r5⟩ := And.intro (HR.out.cell 0) (And.intro (HR.out.cell 1) (And.intro (HR.out.cell 2) (And.intro (HR.out.cell 3) (And.intro (HR.out.cell 4) (HR.out.cell 5)))))
      simp only [List.getElem?_toArray, List.getElem?_cons_zero, List.getElem?_cons_succ] at r0 r1 r2 r3 r4 r5
      obtain ⟨g0, g1, g2, g3, g4, g5⟩ := And.intro (HR.out.frozen 0) (And.intro (HR.out.frozen 1) (And.intro (HR.out.frozen 2) (And.intro (HR.out.frozen 3) (And.intro (HR.out.frozen 4) (HR.out.frozen 5)))))
      obtain ⟨p1, q1, hv1⟩ := ownsRow_len hX
      obtain ⟨p2, q2, hv2⟩ := ownsRow_len hT
      subst hv1; subst hv2; go_wp2_with fail
      have B1 := HR.out.set 0 (.int .i64 f)
      have B2 := B1.set 1 (.int .i64 l)
      have B3 := B2.set 2 (.int .i64 ev)
      have B4 := B3.set 3 (.int .i64 a3)
      have B5 := B4.set 4 (.slice p1 xs.length q1)
      have B6 := B5.set 5 (.slice p2 ts.length q2)
      have X6 := row_set (row_set (row_set (row_set (row_set (row_set hX HR.out (by decide) 0 (.int .i64 f)) B1 (by decide) 1 (.int .i64 l)) B2 (by decide) 2 (.int .i64 ev)) B3 (by decide) 3 (.int .i64 a3)) B4 (by decide) 4 (.slice p1 xs.length q1)) B5 (by decide) 5 (.slice p2 ts.length q2)
      have T6 := row_set (row_set (row_set (row_set (row_set (row_set hT HR.out (by decide) 0 (.int .i64 f)) B1 (by decide) 1 (.int .i64 l)) B2 (by decide) 2 (.int .i64 ev)) B3 (by decide) 3 (.int .i64 a3)) B4 (by decide) 4 (.slice p1 xs.length q1)) B5 (by decide) 5 (.slice p2 ts.length q2)
      have D6 := dice_set (i := 5) (u := .slice p2 ts.length q2) (dice_set (i := 4) (u := .slice p1 xs.length q1) (dice_set (i := 3) (u := .int .i64 a3) (dice_set (i := 2) (u := .int .i64 ev) (dice_set (i := 1) (u := .int .i64 l) (dice_set (i := 0) (u := .int .i64 f) HDr.out hblt) hblt) hblt) hblt) hblt) hblt
      have K6 := but_set (i := 5) (u := .slice p2 ts.length q2) (but_set (i := 4) (u := .slice p1 xs.length q1) (but_set (i := 3) (u := .int .i64 a3) (but_set (i := 2) (u := .int .i64 ev) (but_set (i := 1) (u := .int .i64 l) (but_set (i := 0) (u := .int .i64 f) HK.out (Nat.le_refl _)) (Nat.le_refl _)) (Nat.le_refl _)) (Nat.le_refl _)) (Nat.le_refl _)) (Nat.le_refl _)
      obtain ⟨W, hW⟩ : ∃ W, W = (((((wr.setCell ⟨w.heap.size, 0, none⟩ (.int .i64 f)).setCell ⟨w.heap.size, 1, none⟩ (.int .i64 l)).setCell ⟨w.heap.size, 2, none⟩ (.int .i64 ev)).setCell ⟨w.heap.size, 3, none⟩ (.int .i64 a3)).setCell ⟨w.heap.size, 4, none⟩ (.slice p1 xs.length q1)).setCell ⟨w.heap.size, 5, none⟩ (.slice p2 ts.length q2) := ⟨_, rfl⟩
      rw [← hW] at B6 X6 T6 D6 K6 ⊢
      clear hW r0 r1 r2 r3 r4 r5 g0 g1 g2 g3 g4 g5 c0 c1 c2 c3 c4 c5 B1 B2 B3 B4 B5; have r0 := B6.cell 0; have r1 := B6.cell 1; have r2 := B6.cell 2; have r3 := B6.cell 3; have r4 := B6.cell 4; have r5 := B6.cell 5; have r0 : W.cell? ⟨w.heap.size, 0, none⟩ = some (.int .i64 f) := r0
      have r1 : W.cell? ⟨w.heap.size, 1, none⟩ = some (.int .i64 l) := r1
      have r2 : W.cell? ⟨w.heap.size, 2, none⟩ = some (.int .i64 ev) := r2
      have r3 : W.cell? ⟨w.heap.size, 3, none⟩ = some (.int .i64 a3) := r3
      have r4 : W.cell? ⟨w.heap.size, 4, none⟩ = some (.slice p1 xs.length q1) := r4
      have r5 : W.cell? ⟨w.heap.size, 5, none⟩ = some (.slice p2 ts.length q2) := r5
      refine bodyPost_ret (v := serVal ⟨f, l, ev, a3, xs, ts⟩ (.slice p1 xs.length q1) (.slice p2 ts.length q2)) (by simp [results, Tryz.results152, go_sem, r0, r1, r2, r3, r4, r5, serVal]) rfl ?_
      exact ⟨_, _, _, rfl, X6, T6, ⟨by simp; omega, by simp; omega, by simp; omega, ev0, ev1, k0, by simp; omega, by simp; omega, by simp; omega⟩, Tt.parts_valid (s := ⟨f, l, ev, a3, xs, ts⟩) (by simp; omega) (by simp; omega) l0 l1 ev0 ev1 k0 (by simp; omega) (by simp; omega) HPx.out HPt.out, D6, K6⟩
end Go.Proofs.YtageielcdebjlaaGreatDoor
