/- The parser's text: exact. A buffer's put once more: what else lies in memory is kept, the buffer's own row apart. -/
import Derived.Test.YtageielcdebjlaaGreatDoorParseAll
import Derived.Test.YtageielcdebjlaaGreatDoorPk15
namespace Go.Proofs.YtageielcdebjlaaGreatDoor
open Go.RowKit

set_option maxHeartbeats 4000000 in
set_option maxRecDepth 100000 in
theorem text181 (b g o cap : Nat) (xs : List ByteArray) (z s : ByteArray) (bad : Bool) (w : World) (hpar : Par b g o cap xs z bad w) (hg : g < w.heap.size) (hs : s.size ≤ 70368744177664) :
    Calls Tryz.prog 181 #[.pointer (some ⟨b, 0, none⟩), .string s] w fun e w' => e = .returned (.string (unescS s.data.toList)) ∧ Par b g o cap xs z (bad || !unescB s.data.toList) w' ∧ But b w.heap.size w w' := by
  have HU := unescape_any s w hs; obtain ⟨U, hU⟩ : ∃ U, U = unescB s.data.toList := ⟨_, rfl⟩
  obtain ⟨T, hT⟩ : ∃ T, T = unescS s.data.toList := ⟨_, rfl⟩
  rw [← hU, ← hT] at HU ⊢
  have HUU := Lib.hid HU; clear HU hU hT; go_enter Tryz.func181, Tryz.ntmps181
  go_wp2_with fail
  refine HUU.out.mono ?_
  rintro e w1 ⟨rfl, hbel⟩; have hp1 := hpar.below hbel hg; have c2 := hp1.c2; have hf := hp1.f0 2; clear hpar HUU; cases bad <;> cases U
  all_goals
    go_wp2_with fail
    go_ret; exact ⟨rfl, hp1.set2 _, (But.of_below (b := b) hbel).trans ((only_set w1 b 2 _).but)⟩
end Go.Proofs.YtageielcdebjlaaGreatDoor
namespace Go.Proofs.YtageielcdebjlaaGreatDoor
open Go.RowKit

/-- What is no row of texts, and not the buffer, is kept. -/
def Keep9 (b : Nat) (w w' : World) : Prop := ∀ g cs ty, ty ≠ 9 → g ≠ b → Blk g cs ty w → Blk g cs ty w'
theorem Keep9.refl (b : Nat) (w : World) : Keep9 b w w := fun _ _ _ _ _ h => h
theorem Keep9.trans {b : Nat} {w w' w'' : World} (h : Keep9 b w w') (k : Keep9 b w' w'') : Keep9 b w w'' := fun g cs ty h1 h2 h3 => k g cs ty h1 h2 (h g cs ty h1 h2 h3)
theorem Keep9.made {b : Nat} {w w' : World} (h : Below w.heap.size w w') : Keep9 b w w' := fun _ _ _ _ _ h3 => h3.below h h3.lt
theorem put_blk {b B n g : Nat} {v u : Value} {ys : List Value} {x : Value} {w w' w1 : World} {cs : Array Value} {ty : TypeId} (h : Blk g cs ty w) (ht : ty ≠ 9) (hne : g ≠ b) (hb : Below w.drew.heap.size w.drew w') (hown : w'.ownsRow B 9 1 v n ys)
    (hg : (w'.alloc (.cells #[u] 9)).grownBy w1 v.ownBlock) : Blk g cs ty (w1.setCell ⟨b, 0, none⟩ x) :=
  ((((h.draw).below hb h.draw.lt).alloc _).grown (hown.alloc _) hg ht).set_other hne 0 x

set_option maxHeartbeats 4000000 in
set_option maxRecDepth 100000 in
theorem put_keep (b B : Nat) (xs parts : List ByteArray) (pb po c : Nat) (w : World) (hb : Buf b B xs w) (hB : B ≤ w.heap.size)
    (hp : ∀ (j : Nat) x, parts[j]? = some x → w.cell? ⟨pb, po + j, none⟩ = some (.string x)) (hpb : pb < w.heap.size) (hc : parts.length ≤ c) (hn : parts.length ≤ 1000)
    (hlen : (parts.map (·.data.toList)).flatten.length ≤ 140737488355328) (hx : xs.length ≤ 1000000) :
    Calls Tryz.prog 172 #[.pointer (some ⟨b, 0, none⟩), .slice (some ⟨pb, po, none⟩) parts.length c] w fun e w' => e = .returned (.tuple #[]) ∧ Buf b B (xs ++ [⟨((parts.map (·.data.toList)).flatten).toArray⟩]) w' ∧ But b B w w' ∧ Keep9 b w w' := by
  obtain ⟨i1, hj, hy0, hy2, hy3⟩ := info_parts infoString
  obtain ⟨v, hbk, hown⟩ := hb.ex
  have hbB := hb.lt; have HJ : Hid (∀ W : World, (∀ (j : Nat) x, parts[j]? = some x → W.cell? ⟨pb, po + j, none⟩ = some (.string x)) → pb < W.heap.size → Calls Tryz.prog 249 #[.slice (some ⟨pb, po, none⟩) parts.length c, .string ⟨#[]⟩] W fun e w' => e = .returned (.string ⟨((parts.map (·.data.toList)).flatten).toArray⟩) ∧ Below W.heap.size W w') := by
    intro W h1 h2; have := Tryz.strings_Join pb po c parts ⟨#[]⟩ W h1 h2 (by omega) hc (by rw [show (⟨#[]⟩ : ByteArray).data.toList = [] from rfl, join_nil]; exact hlen)
    rw [show (⟨#[]⟩ : ByteArray).data.toList = [] from rfl, join_nil] at this
    exact this
  have HP := Lib.hid hp; have HOWN := Lib.hid hown; have HBK := Lib.hid hbk; have hblt : b < w.heap.size := (Array.getElem?_eq_some_iff.1 hbk).1
  have c0 : w.cell? ⟨b, 0, none⟩ = some v := by rw [Lib.cell_of_heap hbk]; rfl
  have f0 : w.frozen? ⟨b, 0, none⟩ = false := Lib.frozen_of_heap hbk 0
  obtain ⟨L, hL⟩ : ∃ L, L = (⟨((parts.map (·.data.toList)).flatten).toArray⟩ : ByteArray) := ⟨_, rfl⟩
  rw [← hL] at HJ
  have HLL := Lib.hid hL; clear hp hown hbk hlen hL; go_enter Tryz.func172, Tryz.ntmps172
  go_wp2_with fail
  go_region_law (first | (refine step_append_lies _ (by rfl) _ _ _ (by rfl) B 9 i1 _ 1 16 Tryz.underlying154 hj hy0 hy2 hy3 rfl (by omega) v xs.length (xs.map Value.string) (by rfl) (hownJ.alloc _) ⟨w'.heap.size, 0, none⟩ 1 1 [.string L] (by rfl) (by rfl) (cell_one _ _ _) (by simp [Value.oneCell']) (by omega) (by unfold maxLen; omega) (by omega) (by simp; omega) (w'.heap.size + 1) (by simp) ?_; intro gg cap w1 hown1 hgrow hat hlt; obtain ⟨cA, fA⟩ := put_kept hbkJ hownJ hbB hgrow) | (go_simp; go_at_call 249; refine (HJ.out _ (by simpa using HP.out) (by simpa using hpb)).mono ?_; rintro e w' ⟨rfl, hbw⟩; obtain ⟨hownJ, hbkJ, cJ, fJ, sJ, oJ⟩ := put_join HOWN.out HBK.out hblt hbw hB))
  all_goals
    go_end0
    refine ⟨rfl, ?_, ?_, ?_⟩
    · rw [← HLL.out]; exact put_buf hbkJ.out hownJ hbB hgrow hown1
    · exact put_but (b := b) hbw hownJ hbB hB hgrow
    · exact fun g cs ty ht hne h => put_blk h ht hne hbw hownJ hgrow
theorem put_parts2 (b B pb : Nat) (xs parts : List ByteArray) (W : World) (hpb : pb = W.heap.size) (hb : Buf b B xs W) (hB : B ≤ W.heap.size) (hn : parts.length ≤ 1000)
    (hlen : (parts.map (·.data.toList)).flatten.length ≤ 140737488355328) (hx : xs.length ≤ 1000000) :
    Calls Tryz.prog 172 #[.pointer (some ⟨b, 0, none⟩), .slice (some ⟨pb, 0, none⟩) parts.length parts.length] (W.alloc (.cells (parts.map Value.string).toArray 9)) fun e w' => e = .returned (.tuple #[]) ∧ Buf b B (xs ++ [str (parts.map (·.data.toList)).flatten]) w' ∧ But b B W w' ∧ Keep9 b W w' := by
  subst hpb; have hal : Below W.heap.size W (W.alloc (.cells (parts.map Value.string).toArray 9)) := (Below.refl _ _).alloc (Nat.le_refl _) _
  refine (put_keep b B xs parts W.heap.size 0 parts.length _ (hb.kept hal) (by simp; omega) ?_ (by simp) (Nat.le_refl _) hn hlen hx).mono ?_
  · intro j x hj; rw [Nat.zero_add, World.cell?_alloc_at _ _ _ _ rfl]
    simp [hj]
  · rintro e w' ⟨h1, h2, h3, h4⟩; exact ⟨h1, h2, (But.of_below (hal.mono hB)).trans h3, (Keep9.made hal).trans h4⟩
end Go.Proofs.YtageielcdebjlaaGreatDoor
