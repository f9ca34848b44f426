/- The feed's buffer: put appends one line. -/
import Derived.Test.YtageielcdebjlaaGreatDoorUnfold
import Derived.Deep.AppendLies
import Derived.Deep.RegionLaw
import Derived.Deep.RegionHeld3
namespace Go.Proofs.YtageielcdebjlaaGreatDoor
open Go.RowKit

/-- The buffer in block b holds the lines xs. -/
structure Buf (b B : Nat) (xs : List ByteArray) (w : World) : Prop where
  lt : b < B
  ex : ∃ v, w.heap[b]? = some (.cells #[v] 210 (0, 0)) ∧ w.ownsRow B 9 1 v xs.length (xs.map Value.string)

theorem join_nil (ls : List (List UInt8)) : Lib.join ls [] = ls.flatten := by
  unfold Lib.join List.intercalate
  induction ls with
  | nil => rfl
  | cons a t ih =>
    cases t with
    | nil => simp
    | cons b r =>
      rw [show List.intersperse [] (a :: b :: r) = a :: [] :: List.intersperse [] (b :: r) from rfl]
      simp only [List.flatten_cons] at ih ⊢
      rw [ih]; simp

theorem put_join {b B : Nat} {v : Value} {n : Nat} {ys : List Value} {w w' : World} (hown : w.ownsRow B 9 1 v n ys) (hbk : w.heap[b]? = some (.cells #[v] 210 (0, 0))) (hblt : b < w.heap.size) (hb : Below w.drew.heap.size w.drew w') (hB : B ≤ w.heap.size) :
    w'.ownsRow B 9 1 v n ys ∧ Hid (w'.heap[b]? = some (.cells #[v] 210 (0, 0))) ∧ w'.cell? ⟨b, 0, none⟩ = some v ∧ w'.frozen? ⟨b, 0, none⟩ = false ∧ B ≤ w'.heap.size ∧ (∀ o, (w'.alloc o).cell? ⟨b, 0, none⟩ = some v) := by
  have h1 : w'.heap[b]? = some (.cells #[v] 210 (0, 0)) := (hb.block b hblt).trans hbk
  exact ⟨ownsRow_below (w := w.drew) hown hb, h1, by rw [Lib.cell_of_heap h1]; rfl, Lib.frozen_of_heap h1 0, Nat.le_trans hB hb.size, fun o => by
    have h2 := (Lib.alloc_old w' o b (Array.getElem?_eq_some_iff.1 h1).1).trans h1
    rw [Lib.cell_of_heap h2]; rfl⟩

theorem put_kept {b B : Nat} {v : Value} {n : Nat} {ys : List Value} {w' w1 : World} {u : Value} (hbk : Hid (w'.heap[b]? = some (.cells #[v] 210 (0, 0)))) (hown : w'.ownsRow B 9 1 v n ys) (hbB : b < B) (hg : (w'.alloc (.cells #[u] 9)).grownBy w1 v.ownBlock) :
    w1.cell? ⟨b, 0, none⟩ = some v ∧ w1.frozen? ⟨b, 0, none⟩ = false := by
  have hlt : b < w'.heap.size := (Array.getElem?_eq_some_iff.1 hbk.out).1
  have h1 : w1.heap[b]? = some (.cells #[v] 210 (0, 0)) := by
    rw [hg.block b (by simp; omega) (fun e => by have := (hown.lt b e.symm).1; omega), Lib.alloc_old w' _ b hlt]
    exact hbk.out
  exact ⟨by rw [Lib.cell_of_heap h1]; rfl, Lib.frozen_of_heap h1 0⟩

theorem put_buf {b B g cap : Nat} {v : Value} {xs : List ByteArray} {L : ByteArray} {w' w1 : World} (hbk : w'.heap[b]? = some (.cells #[v] 210 (0, 0))) (hown : w'.ownsRow B 9 1 v xs.length (xs.map Value.string)) (hbB : b < B)
    (hg : (w'.alloc (.cells #[.string L] 9)).grownBy w1 v.ownBlock) (hown1 : w1.ownsRow B 9 1 (.slice (some ⟨g, 0, none⟩) (xs.length + 1) cap) (xs.length + 1) (xs.map Value.string ++ [.string L])) :
    Buf b B (xs ++ [L]) (w1.setCell ⟨b, 0, none⟩ (.slice (some ⟨g, 0, none⟩) (xs.length + 1) cap)) := by
  have hlt : b < w'.heap.size := (Array.getElem?_eq_some_iff.1 hbk).1
  have h1 : w1.heap[b]? = some (.cells #[v] 210 (0, 0)) := by
    rw [hg.block b (by simp; omega) (fun e => by have := (hown.lt b e.symm).1; omega), Lib.alloc_old w' _ b hlt]
    exact hbk
  refine ⟨hbB, .slice (some ⟨g, 0, none⟩) (xs.length + 1) cap, by simp [World.setCell, Array.getElem?_modify, h1], ?_⟩
  have := ownsRow_setCell_below hown1 (a := ⟨b, 0, none⟩) hbB (.slice (some ⟨g, 0, none⟩) (xs.length + 1) cap)
  simpa using this

theorem put_but {b B n : Nat} {v u : Value} {ys : List Value} {x : Value} {w w' w1 : World} (hb : Below w.drew.heap.size w.drew w') (hown : w'.ownsRow B 9 1 v n ys) (hbB : b < B) (hB : B ≤ w.heap.size)
    (hg : (w'.alloc (.cells #[u] 9)).grownBy w1 v.ownBlock) : But b B w (w1.setCell ⟨b, 0, none⟩ x) := by
  have hs : w.heap.size ≤ w'.heap.size := hb.size
  refine ⟨hg.os.trans hb.os, hg.tape.trans hb.tape, hg.output.trans hb.output, ?_, fun k hk hkb => ?_⟩
  · have := hg.size
    simp [World.setCell] at this ⊢
    omega
  · rw [Below.heap_setCell _ _ _ _ hkb, hg.block k (by simp; omega) (fun e => by have := (hown.lt k e.symm).1; omega), Lib.alloc_old w' _ k (by omega)]
    exact hb.block k (show k < w.heap.size by omega)

set_option maxHeartbeats 4000000 in
set_option maxRecDepth 100000 in
theorem put_any (b B : Nat) (xs parts : List ByteArray) (pb po c : Nat) (w : World) (hb : Buf b B xs w) (hB : B ≤ w.heap.size)
    (hp : ∀ (j : Nat) x, parts[j]? = some x → w.cell? ⟨pb, po + j, none⟩ = some (.string x)) (hpb : pb < w.heap.size) (hc : parts.length ≤ c) (hn : parts.length ≤ 1000)
    (hlen : (parts.map (·.data.toList)).flatten.length ≤ 140737488355328) (hx : xs.length ≤ 1000000) :
    Calls Tryz.prog 172 #[.pointer (some ⟨b, 0, none⟩), .slice (some ⟨pb, po, none⟩) parts.length c] w fun e w' => e = .returned (.tuple #[]) ∧ Buf b B (xs ++ [⟨((parts.map (·.data.toList)).flatten).toArray⟩]) w' ∧ But b B w w' := by
  obtain ⟨i1, hj, hy0, hy2, hy3⟩ := info_parts infoString
  obtain ⟨v, hbk, hown⟩ := hb.ex
  have hbB := hb.lt
  have HJ : Hid (∀ W : World, (∀ (j : Nat) x, parts[j]? = some x → W.cell? ⟨pb, po + j, none⟩ = some (.string x)) → pb < W.heap.size → Calls Tryz.prog 249 #[.slice (some ⟨pb, po, none⟩) parts.length c, .string ⟨#[]⟩] W fun e w' => e = .returned (.string ⟨((parts.map (·.data.toList)).flatten).toArray⟩) ∧ Below W.heap.size W w') := by
    intro W h1 h2
    have := Tryz.strings_Join pb po c parts ⟨#[]⟩ W h1 h2 (by omega) hc (by rw [show (⟨#[]⟩ : ByteArray).data.toList = [] from rfl, join_nil]; exact hlen)
    rw [show (⟨#[]⟩ : ByteArray).data.toList = [] from rfl, join_nil] at this
    exact this
  have HP := Lib.hid hp
  have HOWN := Lib.hid hown
  have HBK := Lib.hid hbk
  have hblt : b < w.heap.size := (Array.getElem?_eq_some_iff.1 hbk).1
  have c0 : w.cell? ⟨b, 0, none⟩ = some v := by rw [Lib.cell_of_heap hbk]; rfl
  have f0 : w.frozen? ⟨b, 0, none⟩ = false := Lib.frozen_of_heap hbk 0
  obtain ⟨L, hL⟩ : ∃ L, L = (⟨((parts.map (·.data.toList)).flatten).toArray⟩ : ByteArray) := ⟨_, rfl⟩
  rw [← hL] at HJ
  have HLL := Lib.hid hL
  clear hp hown hbk hlen hL
  go_enter Tryz.func172, Tryz.ntmps172
  go_wp2_with fail
  go_region_law (first | (refine step_append_lies _ (by rfl) _ _ _ (by rfl) B 9 i1 _ 1 16 Tryz.underlying154 hj hy0 hy2 hy3 rfl (by omega) v xs.length (xs.map Value.string) (by rfl) (hownJ.alloc _) ⟨w'.heap.size, 0, none⟩ 1 1 [.string L] (by rfl) (by rfl) (cell_one _ _ _) (by simp [Value.oneCell']) (by omega) (by unfold maxLen; omega) (by omega) (by simp; omega) (w'.heap.size + 1) (by simp) ?_; intro gg cap w1 hown1 hgrow hat hlt; obtain ⟨cA, fA⟩ := put_kept hbkJ hownJ hbB hgrow) | (go_simp; go_at_call 249; refine (HJ.out _ (by simpa using HP.out) (by simpa using hpb)).mono ?_; rintro e w' ⟨rfl, hbw⟩; obtain ⟨hownJ, hbkJ, cJ, fJ, sJ, oJ⟩ := put_join HOWN.out HBK.out hblt hbw hB))
  all_goals
    go_end0
    refine ⟨rfl, ?_, ?_⟩
    · rw [← HLL.out]
      exact put_buf hbkJ.out hownJ hbB hgrow hown1
    · exact put_but (b := b) hbw hownJ hbB hB hgrow

end Go.Proofs.YtageielcdebjlaaGreatDoor
