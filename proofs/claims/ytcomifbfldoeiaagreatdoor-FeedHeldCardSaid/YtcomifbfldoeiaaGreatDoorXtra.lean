/- Lemmas of the first seat that the base left out. -/
import Derived.Test.YtcomifbfldoeiaaGreatDoorPk25
import Derived.Test.YtcomifbfldoeiaaGreatDoorMak
import Derived.Test.YtcomifbfldoeiaaGreatDoorPk32
import Derived.Test.YtcomifbfldoeiaaGreatDoorShowP
namespace Go.Proofs.YtcomifbfldoeiaaGreatDoor
open Go.RowKit
theorem findFrom_get (u : ByteArray) : ∀ (es : List Ev) (k : Int), 0 ≤ k → (getE u es = none ∧ findFrom u es k = -1) ∨ ∃ (j : Nat) (o : Ev), getE u es = some o ∧ findFrom u es k = k + j ∧ es[j]? = some o
  | [], _, _ => .inl ⟨rfl, rfl⟩
  | e :: r, k, hk => by
    by_cases h : e.uid = u
    · refine .inr ⟨0, e, ?_, ?_, rfl⟩
      · unfold getE; rw [List.find?_cons_of_pos (by simpa using h)]
      · unfold findFrom; rw [if_pos h]; simp
    · have h1 : getE u (e :: r) = getE u r := by unfold getE; rw [List.find?_cons_of_neg (by simpa using h)]
      have h2 : findFrom u (e :: r) k = findFrom u r (k + 1) := by rw [findFrom, if_neg h]
      rw [h1, h2]
      rcases findFrom_get u r (k + 1) (by omega) with h3 | ⟨j, o, h3, h4, h5⟩
      · exact .inl h3
      · exact .inr ⟨j + 1, o, h3, by rw [h4]; push_cast; omega, by simpa using h5⟩
theorem makK_asc (g : Tt.Grd) (t : Tt.Trm) (ls : List (List Ses)) (k : Nat) : AscU (makK g t ls k) := AscU_makeE g t _ _ _ List.Pairwise.nil
theorem LstAt.mono {B B' : Nat} {w : World} {ao : Option Addr} {ls : List (List Ses)} (h : LstAt B w ao ls) (hB : B ≤ B') : LstAt B' w ao ls := by
  rcases h with h | ⟨b, o, h1, h2, h3⟩
  · exact .inl h
  · refine .inr ⟨b, o, h1, by omega, fun j l hl => ?_⟩
    obtain ⟨p, c, k1, k2, k3, k4, k5⟩ := h3 j l hl
    exact ⟨p, c, k1, k2, k3, k4, k5.mono hB⟩
theorem Made.alloc {w w1 : World} (h : Made w w1) (o : Obj) : Made w (w1.alloc o) := h.then (below_box _ _)
theorem Made.blk {w w1 : World} (h : Made w w1) {g : Nat} {cs : Array Value} {ty : TypeId} (k : Blk g cs ty w) : Blk g cs ty w1 := k.below h.below k.lt
theorem RefT.mono {lo lo' : Nat} {w : World} {t : Ev × Value × Value} (h : RefT lo w t) (hb : lo' ≤ lo) : RefT lo' w t := ⟨h.1, ownsRow_mono h.2.1 hb, ownsRow_mono h.2.2 hb⟩
theorem RowT.mono {lo lo' : Nat} {w : World} {v : Value} {ts : List (Ev × Value × Value)} (h : RowT lo w v ts) (hb : lo' ≤ lo) : RowT lo' w v ts := ⟨ownsRow_mono h.row hb, fun t ht => (h.ref t ht).mono hb⟩
theorem RowT.set {lo : Nat} {w : World} {v : Value} {ts : List (Ev × Value × Value)} (h : RowT lo w v ts) {g : Nat} {cs : Array Value} {ty : TypeId} (hg : Blk g cs ty w) (hte : ty ≠ 3) (hte2 : ty ≠ 104) (i : Nat) (u : Value) : RowT lo (w.setCell ⟨g, i, none⟩ u) v ts := ⟨row_set h.row hg hte2 i u, fun t ht => (h.ref t ht).set hg hte i u⟩
theorem RefT.alloc {lo : Nat} {w : World} {t : Ev × Value × Value} (h : RefT lo w t) (o : Obj) : RefT lo (w.alloc o) t := ⟨h.1, World.ownsRow.alloc h.2.1 o, World.ownsRow.alloc h.2.2 o⟩
theorem RowT.alloc {lo : Nat} {w : World} {v : Value} {ts : List (Ev × Value × Value)} (h : RowT lo w v ts) (o : Obj) : RowT lo (w.alloc o) v ts := ⟨h.row.alloc o, fun t ht => (h.ref t ht).alloc o⟩
theorem RowT.box {lo : Nat} {w : World} {v : Value} {ts : List (Ev × Value × Value)} {o : Obj} (h : RowT lo w v ts) : RowT lo (w.alloc o) v ts := h.alloc o
theorem Seg.evs {B : Nat} {w : World} {ao : Option Addr} {ts : List (Ev × Value × Value)} (h : Seg B w ao ts) : Evs B w ao (ts.map (·.1)) := by
  rcases h.at' with h | ⟨b, o, ha, hb, hc⟩
  · exact .inl (by rw [h]; rfl)
  · refine .inr ⟨b, o, ha, hb, fun j e hj => ?_⟩
    obtain ⟨t, ht, he⟩ : ∃ t, ts[j]? = some t ∧ t.1 = e := by
      rw [List.getElem?_map] at hj
      cases h2 : ts[j]? with
      | none => rw [h2] at hj; cases hj
      | some t => rw [h2] at hj; exact ⟨t, rfl, by simpa using hj⟩
    subst he
    obtain ⟨r1, r2, r3⟩ := h.ref t (List.mem_of_getElem? ht)
    exact ⟨r1, t.2.1, t.2.2, seg_c hc j t ht, r2, r3⟩
end Go.Proofs.YtcomifbfldoeiaaGreatDoor
