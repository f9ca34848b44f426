/- Shifts in a row of their own, as a drawn zone holds them. No function of the program in sight. Condition: none. -/
import Derived.Test.YtageielcdebjlaaGreatDoorCondAll
import Derived.Test.YtageielcdebjlaaGreatDoorStartW2
namespace Go.Proofs.YtageielcdebjlaaGreatDoor
open Go.RowKit

/-- The cells of some shifts. -/
def zCells (sh : List (Int × Int)) : List Value := sh.flatMap fun t => [.int .i64 t.1, .int .i64 t.2]
theorem zCells_len : ∀ sh : List (Int × Int), (zCells sh).length = sh.length * 2
  | [] => rfl
  | t :: r => by
    show ([Value.int .i64 t.1, .int .i64 t.2] ++ zCells r).length = _
    have h := zCells_len r
    simp only [List.length_append, List.length_cons, List.length_nil, h]
    omega
theorem zCells_get : ∀ (sh : List (Int × Int)) (j : Nat) (t : Int × Int), sh[j]? = some t → (zCells sh)[j * 2]? = some (.int .i64 t.1) ∧ (zCells sh)[j * 2 + 1]? = some (.int .i64 t.2)
  | [], _, _, h => by simp at h
  | t0 :: r, 0, t, h => by
    simp at h; subst h
    exact ⟨rfl, rfl⟩
  | t0 :: r, j + 1, t, h => by
    have ih := zCells_get r j t (by simpa using h)
    show ([Value.int .i64 t0.1, .int .i64 t0.2] ++ zCells r)[(j + 1) * 2]? = _ ∧ ([Value.int .i64 t0.1, .int .i64 t0.2] ++ zCells r)[(j + 1) * 2 + 1]? = _
    rw [List.getElem?_append_right (by show 2 ≤ _; omega), List.getElem?_append_right (by show 2 ≤ _; omega), show (j + 1) * 2 - [Value.int .i64 t0.1, .int .i64 t0.2].length = j * 2 by show _ - 2 = _; omega, show (j + 1) * 2 + 1 - [Value.int .i64 t0.1, .int .i64 t0.2].length = j * 2 + 1 by show _ - 2 = _; omega]
    exact ih
theorem zCells_snoc (sh : List (Int × Int)) (a o : Int) : zCells (sh ++ [(a, o)]) = zCells sh ++ [.int .i64 a, .int .i64 o] := by unfold zCells; simp
theorem zCells_one (sh : List (Int × Int)) : ∀ u ∈ zCells sh, u.oneCell' = true := by
  intro u hu
  obtain ⟨t, -, ht⟩ := List.mem_flatMap.1 hu
  simp only [List.mem_cons, List.not_mem_nil, or_false] at ht
  rcases ht with rfl | rfl <;> rfl

/-- The shifts of a drawn zone. -/
def RowZ (lo : Nat) (w : World) (v : Value) (sh : List (Int × Int)) : Prop := w.ownsRow lo 137 2 v sh.length (zCells sh)
theorem RowZ.nil (lo : Nat) (w : World) : RowZ lo w (.slice none 0 0) [] := World.ownsRow_nil _ _ _ _
theorem RowZ.snoc {lo : Nat} {w : World} {v : Value} {sh : List (Int × Int)} {a o : Int} (h : w.ownsRow lo 137 2 v (sh.length + 1) (zCells sh ++ [.int .i64 a, .int .i64 o])) : RowZ lo w v (sh ++ [(a, o)]) := by
  unfold RowZ; rw [zCells_snoc]; simpa using h
theorem RowZ.shs {lo : Nat} {w : World} {v : Value} {sh : List (Int × Int)} (h : RowZ lo w v sh) : ∃ ao c, v = .slice ao sh.length c ∧ Shs w.heap.size w ao sh := by
  rcases h.2 with ⟨hv, h0⟩ | ⟨g, cap, cur, hv, r2, r3, r4, r5, _⟩
  · exact ⟨none, 0, by rw [hv, h0], .inl (List.eq_nil_of_length_eq_zero h0)⟩
  · refine ⟨_, cap, hv, .inr ⟨g, 0, rfl, (Array.getElem?_eq_some_iff.1 r3).1, fun j x hj => ?_⟩⟩
    obtain ⟨h1, h2⟩ := zCells_get sh j x hj
    have e1 := h.cells (g := g) (by rw [hv]; rfl) (j * 2) _ h1
    have e2 := h.cells (g := g) (by rw [hv]; rfl) (j * 2 + 1) _ h2
    rw [Addr.add_lit] at e1 e2
    rw [show 0 + j * 2 + 1 = 0 + (j * 2 + 1) by omega]
    exact ⟨e1, e2⟩
/-- A row of the call's own, one of its cells written. -/
theorem row_put {w : World} {B k n c g : Nat} {e : TypeId} {xs : List Value} (h : w.ownsRow B e k (.slice (some ⟨g, 0, none⟩) n c) n xs) (i : Nat) (u : Value) : (w.setCell ⟨g, i, none⟩ u).ownsRow B e k (.slice (some ⟨g, 0, none⟩) n c) n (xs.set i u) := by
  rcases h.2 with ⟨hv, _⟩ | ⟨g', cap, cur, hv, r2, r3, r4, r5, r6, r7⟩
  · cases hv
  · cases hv
    refine ⟨by rw [List.length_set]; exact h.1, .inr ⟨g, c, cur.setIfInBounds i u, rfl, r2, (show Blk g cur e w from r3).set i u, r4, r5, by rw [Array.size_setIfInBounds]; exact r6, ?_⟩⟩
    rw [← r7, Array.toList_setIfInBounds, List.take_set]
theorem row_blk {w : World} {B k n c g : Nat} {e : TypeId} {xs : List Value} (h : w.ownsRow B e k (.slice (some ⟨g, 0, none⟩) n c) n xs) : ∃ cur, Blk g cur e w ∧ B ≤ g ∧ g < w.heap.size := by
  rcases h.2 with ⟨hv, _⟩ | ⟨g', cap, cur, hv, r2, r3, r4⟩
  · cases hv
  · cases hv
    exact ⟨cur, r3, r2, (show Blk g cur e w from r3).lt⟩
theorem row_form {w : World} {B k n : Nat} {e : TypeId} {v : Value} {xs : List Value} (h : w.ownsRow B e k v n xs) (hn : 0 < n) : ∃ g c, v = .slice (some ⟨g, 0, none⟩) n c := by
  rcases h.2 with ⟨hv, h0⟩ | ⟨g, cap, cur, hv, _⟩
  · omega
  · exact ⟨g, cap, hv⟩

/-- The numbers of some shifts. -/
def zInts (sh : List (Int × Int)) : List Int := sh.flatMap fun t => [t.1, t.2]
theorem zCells_ints : ∀ sh : List (Int × Int), zCells sh = (zInts sh).map (Value.int .i64)
  | [] => rfl
  | t :: r => by
    show [Value.int .i64 t.1, .int .i64 t.2] ++ zCells r = ([t.1, t.2] ++ zInts r).map (Value.int .i64)
    rw [zCells_ints r, List.map_append]; rfl
theorem zInts_of : ∀ (n : Nat) (ys : List Int), ys.length = n * 2 → ∃ sh : List (Int × Int), sh.length = n ∧ zInts sh = ys
  | 0, [], _ => ⟨[], rfl, rfl⟩
  | 0, _ :: _, h => by simp at h
  | n + 1, [], h => by simp at h
  | n + 1, [_], h => by simp at h; omega
  | n + 1, a :: o :: r, h => by
    obtain ⟨sh, h1, h2⟩ := zInts_of n r (by simp at h; omega)
    refine ⟨(a, o) :: sh, by simp [h1], ?_⟩
    show [a, o] ++ zInts sh = _
    rw [h2]; rfl
/-- One number of one shift written. -/
theorem RowZ.put {w : World} {lo n c g : Nat} {sh : List (Int × Int)} (h : RowZ lo w (.slice (some ⟨g, 0, none⟩) n c) sh) (hn : sh.length = n) (i : Nat) (a : Int) : ∃ sh2 : List (Int × Int), sh2.length = n ∧ RowZ lo (w.setCell ⟨g, i, none⟩ (.int .i64 a)) (.slice (some ⟨g, 0, none⟩) n c) sh2 := by
  subst hn
  have h1 := row_put h i (.int .i64 a)
  rw [zCells_ints, ← List.map_set] at h1
  obtain ⟨sh2, e1, e2⟩ := zInts_of sh.length ((zInts sh).set i a) (by
    rw [List.length_set]
    have := zCells_len sh
    rw [zCells_ints, List.length_map] at this
    exact this)
  refine ⟨sh2, e1, ?_⟩
  unfold RowZ
  rw [e1, zCells_ints, e2]
  exact h1
theorem RowZ.cell {w : World} {lo n c g : Nat} {sh : List (Int × Int)} (h : RowZ lo w (.slice (some ⟨g, 0, none⟩) n c) sh) (i : Nat) (hi : i < sh.length * 2) : ∃ a : Int, w.cell? ⟨g, i, none⟩ = some (.int .i64 a) := by
  have h2 : i < (zInts sh).length := by
    have := zCells_len sh
    rw [zCells_ints, List.length_map] at this
    omega
  have h1 := World.ownsRow.cells h (g := g) rfl i (.int .i64 (zInts sh)[i]) (by rw [zCells_ints]; simp [h2])
  rw [Addr.add_lit] at h1
  exact ⟨_, by simpa using h1⟩
theorem RowZ.frozen {w : World} {lo n c g : Nat} {sh : List (Int × Int)} (h : RowZ lo w (.slice (some ⟨g, 0, none⟩) n c) sh) (i : Nat) : w.frozen? ⟨g, i, none⟩ = false := by
  rcases h.2 with ⟨hv, _⟩ | ⟨g', cap, cur, hv, r2, r3, r4⟩
  · cases hv
  · cases hv
    exact (show Blk g cur 137 w from r3).frozen i

/-- A block of three cells filled anew. -/
theorem fill3 {g : Nat} {ty : TypeId} {w : World} {x0 x1 x2 : Value} (h : Blk g #[x0, x1, x2] ty w) (v0 v1 v2 : Value) :
    ∃ W, W = ((w.setCell ⟨g, 0, none⟩ v0).setCell ⟨g, 1, none⟩ v1).setCell ⟨g, 2, none⟩ v2 ∧ Blk g #[v0, v1, v2] ty W ∧
      (∀ lo k e v n xs, ty ≠ e → w.ownsRow lo e k v n xs → W.ownsRow lo e k v n xs) ∧ (∀ b, b < g → Dice b w → Dice b W) ∧ (∀ b B w0, B ≤ g → But b B w0 w → But b B w0 W) := by
  refine ⟨_, rfl, ((h.set 0 v0).set 1 v1).set 2 v2, fun lo k e v n xs hty hx => ?_, fun b hb hd => ?_, fun b B w0 hB hk => ?_⟩
  · have h1 := h.set 0 v0
    have h2 := h1.set 1 v1
    exact row_set (row_set (row_set hx h hty 0 v0) h1 hty 1 v1) h2 hty 2 v2
  · exact dice_set (i := 2) (dice_set (i := 1) (dice_set (i := 0) hd hb) hb) hb
  · exact but_set (i := 2) (but_set (i := 1) (but_set (i := 0) hk hB) hB) hB
end Go.Proofs.YtageielcdebjlaaGreatDoor
