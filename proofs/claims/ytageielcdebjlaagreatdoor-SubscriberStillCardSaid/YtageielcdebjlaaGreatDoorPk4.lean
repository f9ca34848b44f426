/- feed.Fold: its contract. The generators' Text: some text of the given characters. timetableref02.SameStrings: its contract; slices of strings in memory. strings.IndexAny and ContainsAny at the two bytes of a line's end, for every string. strings.IndexRune at a rune that is no ASCII, in two ASCII bytes. strings.IndexAny and ContainsAny at the two bytes of a line's end, for every string shorter than the model's bound. More plain facts on lines: how pieces are joined one by one, and how long they are. feed.Unfold: its contract. -/
import Derived.Test.YtageielcdebjlaaGreatDoorPk2
import Derived.Outline
import Derived.WalkSpells
import Derived.Laws.Runes
import Derived.Laws.RangeAny
import Derived.Lib.OthersKept
import Derived.Deep.LoopGhost
import Derived.WalkMore
-- Fold
namespace Go.Proofs.YtageielcdebjlaaGreatDoor
open Go.RowKit

end Go.Proofs.YtageielcdebjlaaGreatDoor

-- Text
namespace Go.Proofs.YtageielcdebjlaaGreatDoor
open Go.RowKit

/-- A row from block B on is as it was where another block alone has been written. -/
theorem ownsRow_only {w w' : World} {B b : Nat} {e : TypeId} {size : Nat} {v : Value} {n : Nat} {xs : List Value} (h : w.ownsRow B e size v n xs) (hb : b < B) (ho : Only b w w') : w'.ownsRow B e size v n xs := by
  refine ⟨h.1, ?_⟩
  rcases h.2 with h1 | ⟨g, cap, cur, r1, r2, r3, r4⟩
  · exact .inl h1
  · exact .inr ⟨g, cap, cur, r1, r2, (ho.2.2.2.2 g (by omega)).trans r3, r4⟩

theorem Only.but {b B : Nat} {w w' : World} (h : Only b w w') : But b B w w' := ⟨h.1, h.2.1, h.2.2.1, by rw [h.2.2.2.1]; exact Nat.le_refl _, fun k _ hk => h.2.2.2.2 k hk⟩

/-- The dice behind whatever keeps all below B but block b, and block b itself. -/
theorem Dice.but {b B : Nat} {w w' : World} (h : Dice b w) (hb : b < B) (hw : But b B w w') (hs : w'.heap[b]? = w.heap[b]?) : Dice b w' :=
  h.kept hb ⟨hw.os, hw.tape, hw.output, hw.size, fun k hk => by
    by_cases e : k = b
    · rw [e, hs]
    · exact hw.block k hk e⟩

theorem string_of_row {w : World} {B : Nat} {v : Value} {l : List UInt8} (h : w.ownsRow B 5 1 v l.length (Lib.byteCells l)) : (convert 76 9 v).run Tryz.prog w = .ok (.string ⟨l.toArray⟩) w := by
  rcases h.2 with ⟨hv, h0⟩ | ⟨g, cap, cur, hv, r2, r3, r4⟩
  · have : l = [] := List.eq_nil_of_length_eq_zero h0
    subst this; subst hv
    exact run_convert_bytes_nil w 76 5 Tryz.underlying76 Tryz.underlying5 0 0 9 Tryz.underlying9
  · subst hv
    refine run_convert_bytes_back w 76 9 5 ⟨g, 0, none⟩ cap l Tryz.underlying76 Tryz.underlying5 Tryz.underlying9 (fun j hj => ?_)
    exact h.cells (g := g) rfl j _ (by simp [Lib.byteCells, hj])

set_option maxHeartbeats 4000000 in
set_option maxRecDepth 100000 in
theorem text_any (b : Nat) (sg : ByteArray) (m : Int) (w : World) (hd : Dice b w) (h1 : 1 ≤ sg.size) (h2 : sg.size ≤ 1000) (hm : 0 ≤ m) (hm2 : m ≤ 1000) :
    Calls Tryz.prog 34 #[.pointer (some ⟨b, 0, none⟩), .string sg, .int .i64 m] w fun e w' => ∃ x : List UInt8, e = .returned (.string ⟨x.toArray⟩) ∧ (x.length : Int) ≤ m ∧ (∀ c ∈ x, c ∈ sg.data.toList) ∧ Dice b w' ∧ But b w.heap.size w w' := by
  obtain ⟨i0, hi, hz0, hz1, hz2⟩ := info_parts infoByte
  have hblt := hd.lt
  go_enter Tryz.func34, Tryz.ntmps34
  go_wp2_with fail
  refine (next_any b (m + 1) _ hd (by omega) (by omega)).mono ?_
  rintro e w1 ⟨v0, rfl, hv0, hv1, _, hd1, ho1⟩
  have hv2 : v0 ≤ m := by have := hv1 (by omega); omega
  obtain ⟨k0, rfl⟩ : ∃ k0 : Nat, v0 = k0 := ⟨v0.toNat, by omega⟩
  have hs1 : w.heap.size ≤ w1.heap.size := by rw [ho1.2.2.2.1]; exact Nat.le_refl _
  clear hv1 hv0
  go_wp2_with fail
  go_loopw [7, 8] (fun v n wr => ∃ (k : Nat) (acc : List UInt8), n = .int .i64 k ∧ (acc.length : Int) + k ≤ m ∧ wr.ownsRow w.heap.size 5 1 v acc.length (Lib.byteCells acc) ∧ (∀ c ∈ acc, c ∈ sg.data.toList) ∧ Dice b wr ∧ But b w.heap.size w wr) (fun _ n _ => (intOf n).toNat)
  case atStart => exact ⟨k0, [], rfl, by simpa using hv2, World.ownsRow_nil _ _ _ _, by simp, hd1, ho1.but⟩
  case round =>
    clear hv2 hd1 ho1 hs1
    obtain ⟨k, acc, rfl, hk, hown, hin, hdr, hbut⟩ := hrel
    have hsz := hbut.size
    by_cases hlt : 0 < k
    · go_wp2_with fail
      refine (next_any b sg.size _ hdr (by omega) (by omega)).mono ?_
      rintro e w2 ⟨v1, rfl, hv0, hv1, _, hd2, ho2⟩
      have hv2 := hv1 (by omega)
      obtain ⟨j, rfl⟩ : ∃ j : Nat, v1 = j := ⟨v1.toNat, by omega⟩
      have hown2 := ownsRow_only hown hblt ho2
      have hlt2 : j < sg.size := by omega
      obtain ⟨c, hx⟩ : ∃ c : UInt8, sg[j]'hlt2 = c := ⟨_, rfl⟩
      have HC := Lib.hid (show c ∈ sg.data.toList from by
        have := Lib.data_getElem? sg j hlt2
        rw [hx] at this
        exact List.mem_of_getElem? this)
      have hbut2 := hbut.trans (ho2.but (B := w.heap.size))
      have hsz2 := hbut2.size
      clear hv1 ho2
      go_wp2_with (at_builtin; refine wpList_append_own _ rfl _ _ 76 rfl w.heap.size 5 i0 (.int .u8 0) 1 1 Tryz.underlying76 hi hz0 hz1 hz2 rfl (by decide) _ _ _ rfl (hown2.alloc _) ⟨w2.heap.size, 0, none⟩ 1 1 [.int .u8 c.toNat] rfl rfl ?c1 ?c2 ?c3 ?c4 ?c5 ?_)
      case c1 =>
        intro j u hj
        match j, hj with
        | 0, hj => simp at hj; subst hj; simp [Addr.add]
      case c2 => intro u hu; simp at hu; subst hu; rfl
      case c3 => unfold maxLen; omega
      case c4 => omega
      case c5 => simp; omega
      intro v' w3 hown' hgrow _
      have hblk : ∀ i, i < w.heap.size → w3.heap[i]? = w2.heap[i]? := by
        intro i hi
        rw [hgrow.block i (by simp; omega) (by intro e; have := (hown2.lt i e.symm).1; omega), Lib.alloc_old w2 _ i (by omega)]
      have hbel : Below w.heap.size w2 w3 := ⟨hgrow.os, hgrow.tape, hgrow.output, by have := hgrow.size; simp at this; omega, hblk⟩
      have hd3 := hd2.kept hblt hbel
      have hbut3 := hbut2.trans (But.of_below hbel)
      clear hgrow hblk hbel hown hown2 hdr hbut hd2
      go_wp2_with fail
      go_roundw
      case rel =>
        refine ⟨k - 1, acc ++ [c], by go_num, by simp; omega, by simpa [Lib.byteCells] using hown', ?_, hd3, hbut3⟩
        intro x hx
        rcases List.mem_append.1 hx with h | h
        · exact hin x h
        · simp at h; subst h; exact HC.out
      case measure => simp [intOf]; omega
    · have hcv := string_of_row hown
      go_wp2_with fail
      go_ret
      exact ⟨acc, rfl, by omega, hin, hdr, hbut⟩

end Go.Proofs.YtageielcdebjlaaGreatDoor

-- Same
namespace Go.Proofs.YtageielcdebjlaaGreatDoor
open Go.RowKit

/-- The strings of a slice that begins at 'ao'. -/
def StrAt (w : World) (ao : Option Addr) (xs : List ByteArray) : Prop := ∀ j x, xs[j]? = some x → ∃ a, ao = some a ∧ w.cell? (a.add j) = some (.string x)

end Go.Proofs.YtageielcdebjlaaGreatDoor
-- CrLf
namespace Go.Proofs.YtageielcdebjlaaGreatDoor
open Go.RowKit

end Go.Proofs.YtageielcdebjlaaGreatDoor

-- CrLf2
namespace Go.Proofs.YtageielcdebjlaaGreatDoor
open Go.RowKit

end Go.Proofs.YtageielcdebjlaaGreatDoor

-- CrLf3
namespace Go.Proofs.YtageielcdebjlaaGreatDoor
open Go.RowKit

end Go.Proofs.YtageielcdebjlaaGreatDoor

-- Bytes2
namespace Tt

end Tt

-- Unfold
namespace Go.Proofs.YtageielcdebjlaaGreatDoor
open Go.RowKit

theorem ownsRow_below {w w' : World} {B : Nat} {e : TypeId} {size : Nat} {v : Value} {n : Nat} {xs : List Value} (h : w.ownsRow B e size v n xs) (ho : Below w.heap.size w w') : w'.ownsRow B e size v n xs := by
  refine ⟨h.1, ?_⟩
  rcases h.2 with h1 | ⟨g, cap, cur, r1, r2, r3, r4⟩
  · exact .inl h1
  · exact .inr ⟨g, cap, cur, r1, r2, (ho.block g (Array.getElem?_eq_some_iff.1 r3).1).trans r3, r4⟩

theorem cell_one (w : World) (v : Value) (e : TypeId) : ∀ (j : Nat) (u : Value), [v][j]? = some u → (w.alloc (.cells #[v] e)).cell? ((⟨w.heap.size, 0, none⟩ : Addr).add j) = some u := by
  intro j u hj
  match j, hj with
  | 0, hj =>
    simp at hj; subst hj
    simp only [Addr.add, if_true]
    rw [World.cell?_alloc_at _ _ _ _ rfl]; rfl

end Go.Proofs.YtageielcdebjlaaGreatDoor
