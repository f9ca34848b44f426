/- The feed's buffer: put appends one line. The lines of a feed without events, and that such a feed is valid. feed.Format of a feed without events. feed's parser: see, take, number; DeleteFunc where nothing is deleted. feed.Parse of the text of a feed without events. -/
import Derived.Test.YtcomifbfldoeiaaGreatDoorUnfoldAll
import Derived.Deep.AppendLies
import Derived.Deep.RegionLaw
import Derived.Deep.RegionHeld3
import Derived.Test.YtcomifbfldoeiaaGreatDoorEscAll
import Derived.Deep.LoopGhost
-- Put
namespace Go.Proofs.YtcomifbfldoeiaaGreatDoor
open Go.RowKit

/-- The buffer in block b holds the lines xs. -/
structure Buf (b B : Nat) (xs : List ByteArray) (w : World) : Prop where
  lt : b < B
  ex : ∃ v, w.heap[b]? = some (.cells #[v] 209 (0, 0)) ∧ w.ownsRow B 9 1 v xs.length (xs.map Value.string)

theorem join_nil (ls : List (List UInt8)) : Lib.join ls [] = ls.flatten := by
  unfold Lib.join List.intercalate
  induction ls with
  | nil => rfl
  | cons a t ih =>
    cases t with
    | nil => simp
    | cons b r =>
      rw [show List.intersperse [] (a :: b :: r) = a :: [] :: List.intersperse [] (b :: r) from rfl]
      simp only [List.flatten_cons] at ih ⊢
      rw [ih]; simp

theorem put_join {b B : Nat} {v : Value} {n : Nat} {ys : List Value} {w w' : World} (hown : w.ownsRow B 9 1 v n ys) (hbk : w.heap[b]? = some (.cells #[v] 209 (0, 0))) (hblt : b < w.heap.size) (hb : Below w.drew.heap.size w.drew w') (hB : B ≤ w.heap.size) :
    w'.ownsRow B 9 1 v n ys ∧ Hid (w'.heap[b]? = some (.cells #[v] 209 (0, 0))) ∧ w'.cell? ⟨b, 0, none⟩ = some v ∧ w'.frozen? ⟨b, 0, none⟩ = false ∧ B ≤ w'.heap.size ∧ (∀ o, (w'.alloc o).cell? ⟨b, 0, none⟩ = some v) := by
  have h1 : w'.heap[b]? = some (.cells #[v] 209 (0, 0)) := (hb.block b hblt).trans hbk
  exact ⟨ownsRow_below (w := w.drew) hown hb, h1, by rw [Lib.cell_of_heap h1]; rfl, Lib.frozen_of_heap h1 0, Nat.le_trans hB hb.size, fun o => by
    have h2 := (Lib.alloc_old w' o b (Array.getElem?_eq_some_iff.1 h1).1).trans h1
    rw [Lib.cell_of_heap h2]; rfl⟩

theorem put_kept {b B : Nat} {v : Value} {n : Nat} {ys : List Value} {w' w1 : World} {u : Value} (hbk : Hid (w'.heap[b]? = some (.cells #[v] 209 (0, 0)))) (hown : w'.ownsRow B 9 1 v n ys) (hbB : b < B) (hg : (w'.alloc (.cells #[u] 9)).grownBy w1 v.ownBlock) :
    w1.cell? ⟨b, 0, none⟩ = some v ∧ w1.frozen? ⟨b, 0, none⟩ = false := by
  have hlt : b < w'.heap.size := (Array.getElem?_eq_some_iff.1 hbk.out).1
  have h1 : w1.heap[b]? = some (.cells #[v] 209 (0, 0)) := by
    rw [hg.block b (by simp; omega) (fun e => by have := (hown.lt b e.symm).1; omega), Lib.alloc_old w' _ b hlt]
    exact hbk.out
  exact ⟨by rw [Lib.cell_of_heap h1]; rfl, Lib.frozen_of_heap h1 0⟩

theorem put_buf {b B g cap : Nat} {v : Value} {xs : List ByteArray} {L : ByteArray} {w' w1 : World} (hbk : w'.heap[b]? = some (.cells #[v] 209 (0, 0))) (hown : w'.ownsRow B 9 1 v xs.length (xs.map Value.string)) (hbB : b < B)
    (hg : (w'.alloc (.cells #[.string L] 9)).grownBy w1 v.ownBlock) (hown1 : w1.ownsRow B 9 1 (.slice (some ⟨g, 0, none⟩) (xs.length + 1) cap) (xs.length + 1) (xs.map Value.string ++ [.string L])) :
    Buf b B (xs ++ [L]) (w1.setCell ⟨b, 0, none⟩ (.slice (some ⟨g, 0, none⟩) (xs.length + 1) cap)) := by
  have hlt : b < w'.heap.size := (Array.getElem?_eq_some_iff.1 hbk).1
  have h1 : w1.heap[b]? = some (.cells #[v] 209 (0, 0)) := by
    rw [hg.block b (by simp; omega) (fun e => by have := (hown.lt b e.symm).1; omega), Lib.alloc_old w' _ b hlt]
    exact hbk
  refine ⟨hbB, .slice (some ⟨g, 0, none⟩) (xs.length + 1) cap, by simp [World.setCell, Array.getElem?_modify, h1], ?_⟩
  have := ownsRow_setCell_below hown1 (a := ⟨b, 0, none⟩) hbB (.slice (some ⟨g, 0, none⟩) (xs.length + 1) cap)
  simpa using this

theorem put_but {b B n : Nat} {v u : Value} {ys : List Value} {x : Value} {w w' w1 : World} (hb : Below w.drew.heap.size w.drew w') (hown : w'.ownsRow B 9 1 v n ys) (_hbB : b < B) (hB : B ≤ w.heap.size)
    (hg : (w'.alloc (.cells #[u] 9)).grownBy w1 v.ownBlock) : But b B w (w1.setCell ⟨b, 0, none⟩ x) := by
  have hs : w.heap.size ≤ w'.heap.size := hb.size
  refine ⟨hg.os.trans hb.os, hg.tape.trans hb.tape, hg.output.trans hb.output, ?_, fun k hk hkb => ?_⟩
  · have := hg.size
    simp [World.setCell] at this ⊢
    omega
  · rw [Below.heap_setCell _ _ _ _ hkb, hg.block k (by simp; omega) (fun e => by have := (hown.lt k e.symm).1; omega), Lib.alloc_old w' _ k (by omega)]
    exact hb.block k (show k < w.heap.size by omega)

set_option maxHeartbeats 4000000 in
set_option maxRecDepth 100000 in
theorem put_any (b B : Nat) (xs parts : List ByteArray) (pb po c : Nat) (w : World) (hb : Buf b B xs w) (hB : B ≤ w.heap.size)
    (hp : ∀ (j : Nat) x, parts[j]? = some x → w.cell? ⟨pb, po + j, none⟩ = some (.string x)) (hpb : pb < w.heap.size) (hc : parts.length ≤ c) (hn : parts.length ≤ 1000)
    (hlen : (parts.map (·.data.toList)).flatten.length ≤ 140737488355328) (hx : xs.length ≤ 1000000) :
    Calls Tryz.prog 132 #[.pointer (some ⟨b, 0, none⟩), .slice (some ⟨pb, po, none⟩) parts.length c] w fun e w' => e = .returned (.tuple #[]) ∧ Buf b B (xs ++ [⟨((parts.map (·.data.toList)).flatten).toArray⟩]) w' ∧ But b B w w' := by
  obtain ⟨i1, hj, hy0, hy2, hy3⟩ := info_parts infoString
  obtain ⟨v, hbk, hown⟩ := hb.ex
  have hbB := hb.lt; have HJ : Hid (∀ W : World, (∀ (j : Nat) x, parts[j]? = some x → W.cell? ⟨pb, po + j, none⟩ = some (.string x)) → pb < W.heap.size → Calls Tryz.prog 194 #[.slice (some ⟨pb, po, none⟩) parts.length c, .string ⟨#[]⟩] W fun e w' => e = .returned (.string ⟨((parts.map (·.data.toList)).flatten).toArray⟩) ∧ Below W.heap.size W w') := by
    intro W h1 h2; have := Tryz.strings_Join pb po c parts ⟨#[]⟩ W h1 h2 (by omega) hc (by rw [show (⟨#[]⟩ : ByteArray).data.toList = [] from rfl, join_nil]; exact hlen)
    rw [show (⟨#[]⟩ : ByteArray).data.toList = [] from rfl, join_nil] at this
    exact this
  have HP := Lib.hid hp; have HOWN := Lib.hid hown; have HBK := Lib.hid hbk; have hblt : b < w.heap.size := (Array.getElem?_eq_some_iff.1 hbk).1
  have c0 : w.cell? ⟨b, 0, none⟩ = some v := by rw [Lib.cell_of_heap hbk]; rfl
  have f0 : w.frozen? ⟨b, 0, none⟩ = false := Lib.frozen_of_heap hbk 0
  obtain ⟨L, hL⟩ : ∃ L, L = (⟨((parts.map (·.data.toList)).flatten).toArray⟩ : ByteArray) := ⟨_, rfl⟩
  rw [← hL] at HJ
  have HLL := Lib.hid hL; clear hp hown hbk hlen hL; go_enter Tryz.func132, Tryz.ntmps132
  go_wp2_with fail
  go_region_law (first | (refine step_append_lies _ (by rfl) _ _ _ (by rfl) B 9 i1 _ 1 16 Tryz.underlying150 hj hy0 hy2 hy3 rfl (by omega) v xs.length (xs.map Value.string) (by rfl) (hownJ.alloc _) ⟨w'.heap.size, 0, none⟩ 1 1 [.string L] (by rfl) (by rfl) (cell_one _ _ _) (by simp [Value.oneCell']) (by omega) (by unfold maxLen; omega) (by omega) (by simp; omega) (w'.heap.size + 1) (by simp) ?_; intro gg cap w1 hown1 hgrow hat hlt; obtain ⟨cA, fA⟩ := put_kept hbkJ hownJ hbB hgrow) | (go_simp; go_at_call 194; refine (HJ.out _ (by simpa using HP.out) (by simpa using hpb)).mono ?_; rintro e w' ⟨rfl, hbw⟩; obtain ⟨hownJ, hbkJ, cJ, fJ, sJ, oJ⟩ := put_join HOWN.out HBK.out hblt hbw hB))
  all_goals
    go_end0
    refine ⟨rfl, ?_, ?_⟩
    · rw [← HLL.out]; exact put_buf hbkJ.out hownJ hbB hgrow hown1
    · exact put_but (b := b) hbw hownJ hbB hB hgrow

end Go.Proofs.YtcomifbfldoeiaaGreatDoor

-- Written
namespace Go.Proofs.YtcomifbfldoeiaaGreatDoor
open Go.RowKit

theorem Buf.kept {b B : Nat} {xs : List ByteArray} {w w' : World} (h : Buf b B xs w) (hw : Below w.heap.size w w') : Buf b B xs w' := by
  obtain ⟨v, h1, h2⟩ := h.ex
  exact ⟨h.lt, v, (hw.block b (Array.getElem?_eq_some_iff.1 h1).1).trans h1, ownsRow_below h2 hw⟩

theorem put_parts (b B pb : Nat) (xs parts : List ByteArray) (W : World) (hpb : pb = W.heap.size) (hb : Buf b B xs W) (hB : B ≤ W.heap.size) (hn : parts.length ≤ 1000)
    (hlen : (parts.map (·.data.toList)).flatten.length ≤ 140737488355328) (hx : xs.length ≤ 1000000) :
    Calls Tryz.prog 132 #[.pointer (some ⟨b, 0, none⟩), .slice (some ⟨pb, 0, none⟩) parts.length parts.length] (W.alloc (.cells (parts.map Value.string).toArray 9)) fun e w' => e = .returned (.tuple #[]) ∧ Buf b B (xs ++ [⟨((parts.map (·.data.toList)).flatten).toArray⟩]) w' ∧ But b B W w' := by
  subst hpb; have hal : Below W.heap.size W (W.alloc (.cells (parts.map Value.string).toArray 9)) := (Below.refl _ _).alloc (Nat.le_refl _) _
  refine (put_any b B xs parts W.heap.size 0 parts.length _ (hb.kept hal) (by simp; omega) ?_ (by simp) (Nat.le_refl _) hn hlen hx).mono ?_
  · intro j x hj; rw [Nat.zero_add, World.cell?_alloc_at _ _ _ _ rfl]
    simp [hj]
  · rintro e w' ⟨h1, h2, h3⟩; exact ⟨h1, h2, (But.of_below (hal.mono hB)).trans h3⟩

set_option maxHeartbeats 4000000 in
set_option maxRecDepth 100000 in
theorem valid_none (n : ByteArray) (v : Int) (hc : Tt.code n.data.toList = true) (h0 : 0 ≤ v) (h1 : v ≤ 64) (w : World) :
    Calls Tryz.prog 69 #[.agg #[.string n, .int .i64 v, .slice none 0 0]] w fun e w' => e = .returned (.int .i64 0) ∧ Below w.heap.size w w' := by
  have HC := Lib.hid hc; clear hc; have q1 : decide (v < 0) = false := decide_eq_false (by omega)
  have q2 : decide (64 < v) = false := decide_eq_false (by omega)
  go_enter Tryz.func69, Tryz.ntmps69
  go_wp2_with (go_at_call 48; refine (code_any _ _).mono ?_; rintro e w' ⟨rfl, rfl⟩; rw [HC.out])
  go_loopg [28] 0 (fun _ i wx => i = .int .i64 0 ∧ wx = w.alloc (.cells #[.string n, .int .i64 v, .slice none 0 0] 49))
  case atStart => exact ⟨rfl, rfl⟩
  case round =>
    obtain ⟨rfl, rfl⟩ := hrel; go_wp2_with fail
    go_ret; exact ⟨rfl, (Below.refl _ _).alloc (Nat.le_refl _) _⟩

def str (l : List UInt8) : ByteArray := ⟨l.toArray⟩

/-- The lines of a feed without events. -/
def lines0 (n : ByteArray) (v : Nat) : List ByteArray :=
  [str [66, 69, 71, 73, 78, 58, 86, 67, 65, 76, 69, 78, 68, 65, 82], str [86, 69, 82, 83, 73, 79, 78, 58, 50, 46, 48], str [80, 82, 79, 68, 73, 68, 58, 45, 47, 47, 116, 105, 109, 101, 116, 97, 98, 108, 101, 47, 47, 69, 78],
    str ([78, 65, 77, 69, 58] ++ n.data.toList), str ([82, 69, 86, 73, 83, 73, 79, 78, 58] ++ Lib.decDigits v), str [69, 78, 68, 58, 86, 67, 65, 76, 69, 78, 68, 65, 82]]

/-- The three cells of a boxed feed, and that they are kept. -/
structure FeedAt (b : Nat) (n : ByteArray) (v : Int) (ev : Value) (w : World) : Prop where
  c0 : w.cell? ⟨b, 0, none⟩ = some (.string n)
  c1 : w.cell? ⟨b, 1, none⟩ = some (.int .i64 v)
  c2 : w.cell? ⟨b, 2, none⟩ = some ev

theorem FeedAt.but {a b B : Nat} {n : ByteArray} {v : Int} {ev : Value} {w w' : World} (h : FeedAt a n v ev w) (hw : But b B w w') (h1 : a < B) (h2 : a ≠ b) : FeedAt a n v ev w' :=
  ⟨(hw.cell (p := ⟨a, 0, none⟩) h1 h2).trans h.c0, (hw.cell (p := ⟨a, 1, none⟩) h1 h2).trans h.c1, (hw.cell (p := ⟨a, 2, none⟩) h1 h2).trans h.c2⟩

theorem written_start (n : ByteArray) (v : Int) (ev : Value) (w : World) :
    FeedAt w.heap.size n v ev ((w.alloc (.cells #[.string n, .int .i64 v, ev] 49)).alloc (.cells #[.slice none 0 0] 209)) ∧
    Buf (w.heap.size + 1) (w.heap.size + 2) [] ((w.alloc (.cells #[.string n, .int .i64 v, ev] 49)).alloc (.cells #[.slice none 0 0] 209)) ∧
    Below w.heap.size w ((w.alloc (.cells #[.string n, .int .i64 v, ev] 49)).alloc (.cells #[.slice none 0 0] 209)) ∧
    ((w.alloc (.cells #[.string n, .int .i64 v, ev] 49)).alloc (.cells #[.slice none 0 0] 209)).heap.size = w.heap.size + 2 := by
  have h1 : ((w.alloc (.cells #[.string n, .int .i64 v, ev] 49)).alloc (.cells #[.slice none 0 0] 209)).heap[w.heap.size]? = some (.cells #[.string n, .int .i64 v, ev] 49 (0, 0)) := by
    rw [Lib.alloc_old _ _ _ (by simp)]; exact heap_alloc_new w _
  have h2 : ((w.alloc (.cells #[.string n, .int .i64 v, ev] 49)).alloc (.cells #[.slice none 0 0] 209)).heap[w.heap.size + 1]? = some (.cells #[.slice none 0 0] 209 (0, 0)) := by
    have := heap_alloc_new (w.alloc (.cells #[.string n, .int .i64 v, ev] 49)) (.cells #[.slice none 0 0] 209)
    simpa using this
  refine ⟨⟨?_, ?_, ?_⟩, ⟨by omega, .slice none 0 0, h2, World.ownsRow_nil _ _ _ _⟩, ((Below.refl _ w).alloc (Nat.le_refl _) _).alloc (by simp) _, by simp⟩
  all_goals (rw [Lib.cell_of_heap h1]; rfl)

set_option maxHeartbeats 4000000 in
set_option maxRecDepth 100000 in
theorem written_none (n z : ByteArray) (v : Nat) (hn : n.size ≤ 1000) (h1 : v < 100) (hd : (Lib.decDigits v).length ≤ 1000) (w : World) :
    Calls Tryz.prog 70 #[.agg #[.string n, .int .i64 v, .slice none 0 0], .string z] w fun e w' => ∃ g cap, e = .returned (.slice (some ⟨g, 0, none⟩) (lines0 n v).length cap) ∧ StrAt w' (some ⟨g, 0, none⟩) (lines0 n v) ∧ w.heap.size ≤ g ∧ g < w'.heap.size ∧ Below w.heap.size w w' := by
  have hnl : n.data.toList.length ≤ 1000 := by rw [← Lib.size_eq]; exact hn
  obtain ⟨W0, hW0⟩ : ∃ W0, W0 = (w.alloc (.cells #[.string n, .int .i64 v, .slice none 0 0] 49)).alloc (.cells #[.slice none 0 0] 209) := ⟨_, rfl⟩
  have HS := written_start n v (.slice none 0 0) w
  rw [← hW0] at HS
  obtain ⟨F0, B0, L0, S0⟩ := HS; have HW0 := Lib.hid hW0; have HS0 := Lib.hid S0; have hs0 : w.heap.size + 2 ≤ W0.heap.size := by omega
  clear hW0 S0; go_enter Tryz.func70, Tryz.ntmps70
  go_wp2_with fail
  rw [← HW0.out]; refine (put_parts (w.heap.size + 1) (w.heap.size + 2) _ [] [_] W0 (by rw [HS0.out]) B0 (by omega) (by simp) (by simp) (by simp)).mono ?_
  rintro e w1 ⟨rfl, B1, K1⟩; have F1 := F0.but K1 (by omega) (by omega)
  have s1 := K1.size; go_wp2_with fail
  refine (put_parts (w.heap.size + 1) (w.heap.size + 2) _ _ [_] w1 rfl B1 (by omega) (by simp) (by simp) (by simp)).mono ?_
  rintro e w2 ⟨rfl, B2, K2⟩; have F2 := F1.but K2 (by omega) (by omega)
  have s2 := K2.size; go_wp2_with fail
  refine (put_parts (w.heap.size + 1) (w.heap.size + 2) _ _ [_] w2 rfl B2 (by omega) (by simp) (by simp) (by simp)).mono ?_
  rintro e w3 ⟨rfl, B3, K3⟩; have F3 := F2.but K3 (by omega) (by omega)
  have s3 := K3.size; have c0 := F3.c0; go_wp2_with fail
  refine (put_parts (w.heap.size + 1) (w.heap.size + 2) _ _ [_, _] w3 rfl B3 (by omega) (by simp) (by simp; omega) (by simp)).mono ?_
  rintro e w4 ⟨rfl, B4, K4⟩; have F4 := F3.but K4 (by omega) (by omega)
  have s4 := K4.size; clear c0; have c1 := F4.c1; go_wp2_with fail
  refine (Tryz.strconv_Itoa_small v h1 _).mono ?_
  rintro e w4' ⟨rfl, rfl⟩; clear c1; go_wp2_with fail
  refine (put_parts (w.heap.size + 1) (w.heap.size + 2) _ _ [_, _] _ rfl B4 (by omega) (by simp) (by simp; omega) (by simp)).mono ?_
  rintro e w5 ⟨rfl, B5, K5⟩; have F5 := F4.but K5 (by omega) (by omega)
  have s5 := K5.size; have c2 := F5.c2; go_wp2_with fail
  clear c2; go_loopg [33] 0 (fun _ i wx => i = .int .i64 0 ∧ wx = w5)
  case atStart => exact ⟨rfl, rfl⟩
  case round =>
    obtain ⟨rfl, rfl⟩ := hrel; go_wp2_with fail
    refine (put_parts (w.heap.size + 1) (w.heap.size + 2) _ _ [_] wr rfl B5 (by omega) (by simp) (by simp) (by simp)).mono ?_
    rintro e w6 ⟨rfl, B6, K6⟩; have B7 : Buf (w.heap.size + 1) (w.heap.size + 2) (lines0 n v) w6 := by
      have := B6
      simpa [lines0, str] using this
    obtain ⟨x, h6, o6⟩ := B7.ex
    have cb : w6.cell? ⟨w.heap.size + 1, 0, none⟩ = some x := by rw [Lib.cell_of_heap h6]; rfl
    obtain ⟨g, cap, hx⟩ : ∃ g cap, x = .slice (some ⟨g, 0, none⟩) 6 cap := by
      rcases o6.2 with ⟨_, h0⟩ | ⟨g, cap, cur, hv, _⟩
      · simp [lines0] at h0
      · exact ⟨g, cap, hv⟩
    rw [hx] at cb o6
    have HO := Lib.hid o6; have K := ((((K1.trans K2).trans K3).trans K4).trans K5).trans K6
    clear hx h6 o6 B0 B1 B2 B3 B4 B5 B6 B7 F0 F1 F2 F3 F4 F5 K1 K2 K3 K4 K5 K6; go_wp2_with fail
    go_ret; refine ⟨g, cap, rfl, ?_, ?_, ?_, L0.trans (K.below (by omega) (by omega))⟩
    · intro j x hx; exact ⟨_, rfl, HO.out.cells (g := g) rfl j (.string x) (by rw [List.getElem?_map, hx]; rfl)⟩
    · have := (HO.out.lt g rfl).1; omega
    · exact (HO.out.lt g rfl).2
end Go.Proofs.YtcomifbfldoeiaaGreatDoor

-- Format
namespace Go.Proofs.YtcomifbfldoeiaaGreatDoor
open Go.RowKit

theorem alloc3 (n : ByteArray) (v : Int) (ev : Value) (w : World) : FeedAt w.heap.size n v ev (w.alloc (.cells #[.string n, .int .i64 v, ev] 49)) := by
  have h1 := heap_alloc_new w (.cells #[.string n, .int .i64 v, ev] 49)
  refine ⟨?_, ?_, ?_⟩
  all_goals (rw [Lib.cell_of_heap h1]; rfl)
theorem FeedAt.below {a B : Nat} {n : ByteArray} {v : Int} {ev : Value} {w w' : World} (h : FeedAt a n v ev w) (hw : Below B w w') (h1 : a < B) : FeedAt a n v ev w' :=
  ⟨(hw.cell (p := ⟨a, 0, none⟩) h1).trans h.c0, (hw.cell (p := ⟨a, 1, none⟩) h1).trans h.c1, (hw.cell (p := ⟨a, 2, none⟩) h1).trans h.c2⟩

theorem addr_add (g k : Nat) : (⟨g, 0, none⟩ : Addr).add k = ⟨g, k, none⟩ := by
  unfold Addr.add
  split
  · simp
  · simp

theorem format_step (ls : List ByteArray) (k : Nat) (x : ByteArray) (h : ls[k]? = some x) : (ls.take (k + 1)).flatMap (fun l => Tt.fold l.data.toList) = (ls.take k).flatMap (fun l => Tt.fold l.data.toList) ++ Tt.fold x.data.toList := by
  obtain ⟨h1, h2⟩ := List.getElem?_eq_some_iff.1 h
  rw [List.take_succ_eq_append_getElem h1, h2]; simp
theorem take_le (ls : List ByteArray) (k : Nat) : ((ls.take k).flatMap (fun l => Tt.fold l.data.toList)).length ≤ (ls.flatMap (fun l => Tt.fold l.data.toList)).length := by
  conv => rhs; rw [← List.take_append_drop k ls]
  rw [List.flatMap_append, List.length_append]; omega

set_option maxHeartbeats 4000000 in
set_option maxRecDepth 100000 in
theorem format_none (n z : ByteArray) (v : Nat) (hc : Tt.code n.data.toList = true) (hz : Tt.code z.data.toList = true) (hn : n.size ≤ 1000) (h1 : v ≤ 64) (hd : (Lib.decDigits v).length ≤ 1000)
    (hsz : ∀ x ∈ lines0 n v, x.size ≤ 100000) (hS : ((lines0 n v).flatMap (fun l => Tt.fold l.data.toList)).length ≤ 262144) (w : World) :
    Calls Tryz.prog 33 #[.agg #[.string n, .int .i64 v, .slice none 0 0], .string z] w fun e w' => e = .returned (.tuple #[.string (str ((lines0 n v).flatMap (fun l => Tt.fold l.data.toList))), .int .i64 0]) ∧ Below w.heap.size w w' := by
  have HV := Lib.hid (fun W => valid_none n v hc (by omega) (by omega) W)
  have HZ := Lib.hid hz; have HWR := Lib.hid (fun W => written_none n z v hn (by omega) hd W)
  have F0 := alloc3 n v (.slice none 0 0) w
  have L0 : Below w.heap.size w (w.alloc (.cells #[.string n, .int .i64 v, .slice none 0 0] 49)) := (Below.refl _ w).alloc (Nat.le_refl _) _
  have c0 := F0.c0; have c1 := F0.c1; have c2 := F0.c2; obtain ⟨ls, hls⟩ : ∃ ls, ls = lines0 n v := ⟨_, rfl⟩
  have h6 : ls.length = 6 := by rw [hls]; rfl
  rw [← hls] at hsz hS ⊢
  have HWR2 := HWR.out; rw [← hls] at HWR2
  have HWR3 := Lib.hid HWR2; have H6 := Lib.hid h6; have hl6 : ls.length ≤ 6 := by omega
  have HSZ := Lib.hid hsz; clear hc hz hd hls HWR HWR2 h6 hsz; go_enter Tryz.func33, Tryz.ntmps33
  go_wp2_with fail
  refine (HV.out _).mono ?_
  rintro e w1 ⟨rfl, hb1⟩; have F1 := F0.below hb1 (by simp)
  have L1 := L0.trans (hb1.mono (by simp))
  have s1 : w.heap.size + 1 ≤ w1.heap.size := by have := hb1.size; simpa using this
  clear c0 c1 c2 F0 L0 hb1; go_wp2_with fail
  refine (code_any _ _).mono ?_
  rintro e w1' ⟨rfl, hw⟩; rw [hw]
  clear hw w1'; rw [HZ.out]
  have hf := Bld.fresh w1 (w1.heap.size + 1) (by omega)
  have F2 := F1.below ((Below.refl _ w1).alloc (Nat.le_refl _) (.cells #[.pointer none, .slice none 0 0] 149)) (by omega)
  have L2 : Below w.heap.size w (w1.alloc (.cells #[.pointer none, .slice none 0 0] 149)) := L1.trans ((Below.refl _ w1).alloc (by omega) _)
  have c0 := F2.c0; have c1 := F2.c1; have c2 := F2.c2; go_wp2_with fail
  refine (HWR3.out _).mono ?_
  rintro e w2 ⟨g, cap, rfl, hstr, hg1, hg2, hb2⟩; have hsz2 := hb2.size; have hB : Bld w1.heap.size w2.heap.size [] w2 := by
    obtain ⟨p, v, hp, hb, _⟩ := (hf.kept hb2).ex
    refine ⟨by simp at hsz2; omega, p, .slice none 0 0, hp, ?_, World.ownsRow_nil _ _ _ _⟩
    rw [hb2.block _ (by simp), heap_alloc_new]
    have := hb
    rw [hb2.block _ (by simp), heap_alloc_new] at this
    simp at this
    rw [← this.1]
  have L3 := L2.trans (hb2.mono (by simp; omega))
  have s2 : w1.heap.size + 1 ≤ w2.heap.size := by simpa using hsz2
  have hgb : w1.heap.size + 1 ≤ g := by simpa using hg1
  have HSTR := Lib.hid hstr; clear c0 c1 c2 F1 F2 L1 L2 hf hb2 hsz2 hg1 hstr; go_wp2_with fail
  go_loopw [22] (fun i wr => ∃ (k : Nat) (acc : List UInt8), k ≤ ls.length ∧ i = .int .i64 k ∧ Bld w1.heap.size w2.heap.size acc wr ∧ But w1.heap.size w2.heap.size w2 wr ∧ acc.length ≤ 262144 ∧ Hid (acc = (ls.take k).flatMap (fun l => Tt.fold l.data.toList))) (fun i _ => ls.length - (intOf i).toNat)
  case atStart => exact ⟨0, [], Nat.zero_le _, rfl, hB, But.refl _ _ _, by simp, rfl⟩
  case round =>
    obtain ⟨k, acc, hk, rfl, hBl, hbut, hacc, HA⟩ := hrel; have hsr := hbut.size; by_cases hlt : k < ls.length
    · obtain ⟨x, hx⟩ : ∃ x, ls[k]? = some x := ⟨_, List.getElem?_eq_getElem hlt⟩
      obtain ⟨a, ha, hcx⟩ := HSTR.out k x hx
      have hca : wr.cell? ⟨g, k, none⟩ = some (.string x) := by
        rw [hbut.cell (p := ⟨g, k, none⟩) hg2 (by simp; omega)]
        cases ha
        rw [addr_add] at hcx; exact hcx
      have hxs := HSZ.out x (List.mem_of_getElem? hx)
      have hlen := take_le ls (k + 1)
      have hst := format_step ls k x hx; rw [hst, ← HA.out, List.length_append] at hlen
      have hlen2 : acc.length + (Tt.fold x.data.toList).length ≤ 262144 := Nat.le_trans hlen hS
      have HST := Lib.hid hst; clear hx ha hcx hlen hst; have hki : (k : Int) < (ls.length : Int) := by omega
      go_wp2_with fail
      refine (fold_any _ _ (by omega)).mono ?_
      rintro e w3 ⟨rfl, hb3⟩; have s3 := hb3.size; have hB3 := hBl.kept hb3; go_wp2_with fail
      refine (writeString_any _ _ _ _ _ hB3 (by rw [Lib.size_eq]; simp only []; omega) (by omega)).mono ?_
      rintro e w4 ⟨rfl, hB4, hbut4⟩; go_wp2_with fail
      go_roundw
      case rel =>
        refine ⟨k + 1, _, by omega, by go_num, hB4, hbut.trans ((But.of_below (hb3.mono (by omega))).trans hbut4), by rw [List.length_append]; exact hlen2, ?_⟩
        show _ = _
        rw [HST.out, HA.out]
      case measure => simp [intOf]; omega
    · have hk2 : k = ls.length := by omega
      have HK := Lib.hid hk2; go_wp2_with fail
      refine (len_any _ _ _ _ hBl).mono ?_
      rintro e w5 ⟨rfl, hw⟩; rw [hw]
      clear hw w5; have hai : ¬ ((262144 : Int) < (acc.length : Int)) := by omega
      go_wp2_with fail
      refine (string_any _ _ _ _ hBl).mono ?_
      rintro e w6 ⟨rfl, hb6⟩; go_wp2_with fail
      go_ret2
      refine ⟨?_, (L3.trans (hbut.below (by omega) (by omega))).trans (hb6.mono (by omega))⟩
      rw [HA.out, HK.out, List.take_length]
      rfl
end Go.Proofs.YtcomifbfldoeiaaGreatDoor

-- Take
namespace Go.Proofs.YtcomifbfldoeiaaGreatDoor
open Go.RowKit

/-- A parser at block b: the lines that are left, and whether something was bad. -/
structure Par (b g o cap : Nat) (xs : List ByteArray) (z : ByteArray) (bad : Bool) (w : World) : Prop where
  hb : w.heap[b]? = some (.cells #[.slice (some ⟨g, o, none⟩) xs.length cap, .string z, .bool bad] 191 (0, 0))
  str : StrAt w (some ⟨g, o, none⟩) xs
  le : xs.length ≤ cap
  ne : g ≠ b

theorem Par.c0 {b g o cap : Nat} {xs : List ByteArray} {z : ByteArray} {bad : Bool} {w : World} (h : Par b g o cap xs z bad w) : w.cell? ⟨b, 0, none⟩ = some (.slice (some ⟨g, o, none⟩) xs.length cap) := by rw [Lib.cell_of_heap h.hb]; rfl
theorem Par.c2 {b g o cap : Nat} {xs : List ByteArray} {z : ByteArray} {bad : Bool} {w : World} (h : Par b g o cap xs z bad w) : w.cell? ⟨b, 2, none⟩ = some (.bool bad) := by rw [Lib.cell_of_heap h.hb]; rfl
theorem Par.f0 {b g o cap : Nat} {xs : List ByteArray} {z : ByteArray} {bad : Bool} {w : World} (h : Par b g o cap xs z bad w) (i : Nat) : w.frozen? ⟨b, i, none⟩ = false := Lib.frozen_of_heap h.hb i
theorem Par.hd {b g o cap : Nat} {x : ByteArray} {xs : List ByteArray} {z : ByteArray} {bad : Bool} {w : World} (h : Par b g o cap (x :: xs) z bad w) : w.cell? ⟨g, o, none⟩ = some (.string x) := by
  obtain ⟨a, ha, hc⟩ := h.str 0 x rfl
  cases ha
  simpa [Addr.add] using hc
theorem Par.lt {b g o cap : Nat} {xs : List ByteArray} {z : ByteArray} {bad : Bool} {w : World} (h : Par b g o cap xs z bad w) : b < w.heap.size := (Array.getElem?_eq_some_iff.1 h.hb).1

theorem addr_add2 (g o k : Nat) : (⟨g, o, none⟩ : Addr).add k = ⟨g, o + k, none⟩ := by
  unfold Addr.add
  split
  · simp [*]
  · simp

theorem strAt_tail {w w' : World} {g o o' : Nat} {x : ByteArray} {xs : List ByteArray} (h : StrAt w (some ⟨g, o, none⟩) (x :: xs)) (ho : o' = o + 1 ∨ xs = []) (hw : w'.heap[g]? = w.heap[g]?) : StrAt w' (some ⟨g, o', none⟩) xs := by
  intro j y hy; rcases ho with rfl | rfl
  · obtain ⟨a, ha, hc⟩ := h (j + 1) y hy
    cases ha
    refine ⟨_, rfl, ?_⟩
    rw [addr_add2] at hc ⊢
    rw [World.cell?_of_block (w := w) (by simpa using hw), show o + 1 + j = o + (j + 1) by omega]
    exact hc
  · cases hy

theorem only_set (w : World) (b i : Nat) (v : Value) : Only b w (w.setCell ⟨b, i, none⟩ v) :=
  ⟨rfl, rfl, rfl, by simp [World.setCell], fun k hk => Below.heap_setCell _ _ _ _ hk⟩

set_option maxHeartbeats 4000000 in
set_option maxRecDepth 100000 in
theorem see_any (b g o cap : Nat) (x : ByteArray) (xs : List ByteArray) (z k : ByteArray) (bad : Bool) (w : World) (h : Par b g o cap (x :: xs) z bad w) :
    Calls Tryz.prog 114 #[.pointer (some ⟨b, 0, none⟩), .string k] w fun e w' => e = .returned (.tuple #[.string ⟨(Lib.trimPrefix x.data.toList k.data.toList).toArray⟩, .bool (Lib.hasPrefix x.data.toList k.data.toList)]) ∧ w' = w := by
  have c0 := h.c0; have c1 := h.hd; have hl2 : (((x :: xs).length : Int) == 0) = false := by rw [List.length_cons]; exact beq_eq_false_iff_ne.2 (by omega)
  have hl3 : (0 : Int) < ((x :: xs).length : Int) := by rw [List.length_cons]; omega
  go_enter Tryz.func114, Tryz.ntmps114
  go_wp2_with fail
  refine (Tryz.strings_CutPrefix _ _ _).mono ?_
  rintro e w1 ⟨rfl, hw⟩; rw [hw]
  clear hw w1; go_wp2_with fail
  go_ret2
  exact ⟨rfl, rfl⟩

set_option maxHeartbeats 4000000 in
set_option maxRecDepth 100000 in
theorem take_any (b g o cap : Nat) (x : ByteArray) (xs : List ByteArray) (z k : ByteArray) (bad : Bool) (w : World) (hpar : Par b g o cap (x :: xs) z bad w) (hp : Lib.hasPrefix x.data.toList k.data.toList = true) :
    Calls Tryz.prog 112 #[.pointer (some ⟨b, 0, none⟩), .string k] w fun e w' => e = .returned (.string ⟨(Lib.trimPrefix x.data.toList k.data.toList).toArray⟩) ∧ (∃ o' cap', Par b g o' cap' xs z bad w') ∧ Only b w w' := by
  have c0 := hpar.c0; have hl3 : (1 : Int) ≤ ((x :: xs).length : Int) := by rw [List.length_cons]; omega
  have hf := hpar.f0 0; go_enter Tryz.func112, Tryz.ntmps112
  go_wp2_with fail
  refine (see_any b g o cap x xs z k bad w hpar).mono ?_
  rintro e w1 ⟨rfl, hw⟩; rw [hw, hp]
  clear hw w1; go_wp2_with fail
  · go_ret; refine ⟨rfl, ⟨o, 0, ?_⟩, only_set _ _ _ _⟩
    have hx : xs = [] := by have := hpar.le; simp at this; apply List.eq_nil_of_length_eq_zero; omega
    exact ⟨by simp [World.setCell, Array.getElem?_modify, hpar.hb], strAt_tail hpar.str (.inr hx) (Below.heap_setCell _ _ _ _ hpar.ne), by rw [hx]; simp, hpar.ne⟩
  · go_ret; refine ⟨rfl, ⟨o + 1, cap - 1, ?_⟩, only_set _ _ _ _⟩
    exact ⟨by simp [World.setCell, Array.getElem?_modify, hpar.hb], strAt_tail hpar.str (.inl rfl) (Below.heap_setCell _ _ _ _ hpar.ne), by have := hpar.le; simp at this; omega, hpar.ne⟩

theorem Par.below {b g o cap : Nat} {xs : List ByteArray} {z : ByteArray} {bad : Bool} {w w' : World} (h : Par b g o cap xs z bad w) (hw : Below w.heap.size w w') (hg : g < w.heap.size) : Par b g o cap xs z bad w' :=
  ⟨(hw.block b h.lt).trans h.hb, fun j x hx => by
    obtain ⟨a, ha, hc⟩ := h.str j x hx
    refine ⟨a, ha, ?_⟩
    cases ha
    rw [addr_add2] at hc ⊢
    exact (hw.cell (p := ⟨g, o + j, none⟩) hg).trans hc, h.le, h.ne⟩
theorem Par.set2 {b g o cap : Nat} {xs : List ByteArray} {z : ByteArray} {bad : Bool} {w : World} (h : Par b g o cap xs z bad w) (bad' : Bool) : Par b g o cap xs z bad' (w.setCell ⟨b, 2, none⟩ (.bool bad')) :=
  ⟨by simp [World.setCell, Array.getElem?_modify, h.hb], fun j x hx => by
    obtain ⟨a, ha, hc⟩ := h.str j x hx
    refine ⟨a, ha, ?_⟩
    cases ha
    rw [addr_add2] at hc ⊢
    rw [World.cell?_of_block (w := w) (Below.heap_setCell _ _ _ _ h.ne)]
    exact hc, h.le, h.ne⟩

set_option maxHeartbeats 4000000 in
set_option maxRecDepth 100000 in
theorem number_any (b g o cap : Nat) (xs : List ByteArray) (z s : ByteArray) (n : Int) (hl : s.size ≤ 18) (ha : Lib.atoi s.data.toList = some n) (w : World) (hpar : Par b g o cap xs z false w) (hg : g < w.heap.size) :
    Calls Tryz.prog 113 #[.pointer (some ⟨b, 0, none⟩), .string s] w fun e w' => e = .returned (.int .i64 n) ∧ Par b g o cap xs z false w' ∧ But b w.heap.size w w' := by
  go_enter Tryz.func113, Tryz.ntmps113
  go_wp2_with fail
  refine (Tryz.strconv_Atoi s n hl ha w).mono ?_
  rintro e w1 ⟨rfl, t, hw⟩; have hbel : Below w.heap.size w w1 := by rw [hw]; exact ⟨rfl, rfl, rfl, by rw [Lib.bytesWorld_size]; omega, fun k hk => Lib.bytesWorld_at_old w 5 t k hk⟩
  clear hw; have hp1 := hpar.below hbel hg; have c2 := hp1.c2; have hf := hp1.f0 2; clear hpar; go_wp2_with fail
  go_ret; refine ⟨rfl, hp1.set2 false, ?_⟩
  exact (But.of_below (b := b) hbel).trans ((only_set w1 b 2 (.bool false)).but)

set_option maxRecDepth 100000 in
theorem minus_any (s : ByteArray) (w : World) :
    Calls Tryz.prog 110 #[.string s] w fun e w' => e = .returned (.bool (Lib.hasPrefix s.data.toList [88, 45])) ∧ w' = w := by
  go_enter Tryz.func110, Tryz.ntmps110
  go_wp2_with fail
  refine (Tryz.strings_HasPrefix _ _ _).mono ?_
  rintro e w2 ⟨rfl, hw⟩; rw [hw]
  clear hw w2; go_wp2_with fail
  go_ret; exact ⟨rfl, rfl⟩

set_option maxHeartbeats 4000000 in
set_option maxRecDepth 100000 in
theorem index_none (ao : Option Addr) (c : Nat) (xs : List ByteArray) (w : World) (hn : xs.length ≤ 9223372036854775806) (h1 : StrAt w ao xs) (hx : ∀ x ∈ xs, Lib.hasPrefix x.data.toList [88, 45] = false) :
    Calls Tryz.prog 174 #[.slice ao xs.length c, .func (.func 110) #[] #[]] w fun e w' => e = .returned (.int .i64 (-1)) ∧ ∃ q, w' = w.drewN q := by
  have HX := Lib.hid hx; have H1 := Lib.hid h1; clear hx h1; go_enter Tryz.func174, Tryz.ntmps174
  go_wp2_with fail
  go_loopw [8] (fun i wr => ∃ k q : Nat, k ≤ xs.length ∧ i = .int .i64 k ∧ wr = w.drewN q) (fun i _ => xs.length - (intOf i).toNat)
  case atStart => exact ⟨0, 0, Nat.zero_le _, rfl, rfl⟩
  case round =>
    obtain ⟨k, q, hk, rfl, rfl⟩ := hrel; by_cases hlt : k < xs.length
    · obtain ⟨x, hx⟩ : ∃ x, xs[k]? = some x := ⟨_, List.getElem?_eq_getElem hlt⟩
      obtain ⟨a, rfl, ha⟩ := H1.out k x hx
      have hp := HX.out x (List.mem_of_getElem? hx)
      have hki : (k : Int) < (xs.length : Int) := by omega
      clear hx; go_wp2_with fail
      refine (minus_any _ _).mono ?_
      rintro e w2 ⟨rfl, hw⟩; rw [hw, hp]
      clear hw w2; go_wp2_with fail
      go_roundw
      case rel => exact ⟨k + 1, _, by omega, by go_num, rfl⟩
      case measure => simp [intOf]; omega
    · go_wp2_with fail
      go_ret; exact ⟨rfl, _, rfl⟩

set_option maxHeartbeats 4000000 in
set_option maxRecDepth 100000 in
theorem delete_none (ao : Option Addr) (c : Nat) (xs : List ByteArray) (w : World) (hn : xs.length ≤ 9223372036854775806) (h1 : StrAt w ao xs) (hx : ∀ x ∈ xs, Lib.hasPrefix x.data.toList [88, 45] = false) :
    Calls Tryz.prog 109 #[.slice ao xs.length c, .func (.func 110) #[] #[]] w fun e w' => e = .returned (.slice ao xs.length c) ∧ ∃ q, w' = w.drewN q := by
  have HI := Lib.hid (index_none ao c xs w hn h1 hx)
  clear h1 hx; go_enter Tryz.func109, Tryz.ntmps109
  go_wp2_with fail
  refine HI.out.mono ?_
  rintro e w2 ⟨rfl, q, hw⟩; rw [hw]
  clear hw w2; go_wp2_with fail
  go_ret; exact ⟨rfl, _, rfl⟩

set_option maxHeartbeats 2000000 in
set_option maxRecDepth 100000 in
theorem equal_any (ao bo : Option Addr) (n m c d : Nat) (xs ys : List ByteArray) (hn : xs.length = n) (hm : ys.length = m) (hn2 : n ≤ 9223372036854775807) (hm2 : m ≤ 9223372036854775807) (w : World) (h1 : StrAt w ao xs) (h2 : StrAt w bo ys) :
    Calls Tryz.prog 116 #[.slice ao n c, .slice bo m d] w fun e w' => e = .returned (.bool (decide (xs = ys))) ∧ ∃ q, w' = w.drewN q := by
  have HN := Lib.hid hn; have HM := Lib.hid hm; have H1 := Lib.hid h1; have H2 := Lib.hid h2; clear hn hm h1 h2; by_cases hl : n = m
  · subst hl; have hq : ((n : Int) != (n : Int)) = false := by simp
    go_enter Tryz.func116, Tryz.ntmps116
    go_wp2_with fail
    go_loopw [13] (fun i wr => ∃ k q : Nat, k ≤ n ∧ i = .int .i64 k ∧ wr = w.drewN q ∧ Hid (∀ j, j < k → xs[j]? = ys[j]?)) (fun i _ => n - (intOf i).toNat)
    case atStart => exact ⟨0, 0, Nat.zero_le _, rfl, rfl, fun j hj => absurd hj (Nat.not_lt_zero _)⟩
    case round =>
      obtain ⟨k, q, hk, rfl, rfl, HE⟩ := hrel; by_cases hlt : k < n
      · obtain ⟨x, hx⟩ : ∃ x, xs[k]? = some x := ⟨_, List.getElem?_eq_getElem (by rw [HN.out]; exact hlt)⟩
        obtain ⟨y, hy⟩ : ∃ y, ys[k]? = some y := ⟨_, List.getElem?_eq_getElem (by rw [HM.out]; exact hlt)⟩
        obtain ⟨a, rfl, ha⟩ := H1.out k x hx
        obtain ⟨b, rfl, hb⟩ := H2.out k y hy
        have HX := Lib.hid hx; have HY := Lib.hid hy; have hki : (k : Int) < (n : Int) := by omega
        clear hx hy; by_cases he : x = y
        · have ht := str_eq x y he; have HXY := Lib.hid he
          clear he; go_wp2_with fail
          go_quiet (fail)
          go_wp2_with fail
          go_roundw
          case rel =>
            refine ⟨k + 1, _, by omega, by go_num, rfl, ?_⟩
            intro j hj; by_cases e : j = k
            · rw [e, HX.out, HY.out, HXY.out]
            · exact HE.out j (by omega)
          case measure => simp [intOf]; omega
        · have ht := str_ne x y he; have HF := Lib.hid (show decide (xs = ys) = false from decide_eq_false (fun e => he (by
            have h3 := HX.out; rw [e, HY.out] at h3
            exact (Option.some.inj h3).symm)))
          clear he; go_wp2_with fail
          go_quiet (fail)
          go_wp2_with fail
          go_ret; rw [HF.out]
          exact ⟨rfl, _, by rw [World.drewN_drewN]⟩
      · go_wp2_with fail
        go_ret; have : xs = ys := by
          apply List.ext_getElem?
          intro j; by_cases hj : j < k
          · exact HE.out j hj
          · rw [List.getElem?_eq_none (by rw [HN.out]; omega), List.getElem?_eq_none (by rw [HM.out]; omega)]
        rw [decide_eq_true this]
        exact ⟨rfl, _, rfl⟩
  · have hq : ((n : Int) != (m : Int)) = true := by rw [bne_iff_ne]; omega
    have HF := Lib.hid (show decide (xs = ys) = false from decide_eq_false (fun e => hl (by rw [← HN.out, ← HM.out, e])))
    clear hl; go_enter Tryz.func116, Tryz.ntmps116
    go_wp2_with fail
    go_ret; rw [HF.out]
    exact ⟨rfl, 0, rfl⟩
end Go.Proofs.YtcomifbfldoeiaaGreatDoor

-- Parse
namespace Go.Proofs.YtcomifbfldoeiaaGreatDoor
open Go.RowKit

def kBegin : List UInt8 := [66, 69, 71, 73, 78, 58, 86, 67, 65, 76, 69, 78, 68, 65, 82]
def kVersion : List UInt8 := [86, 69, 82, 83, 73, 79, 78, 58]
def kProdid : List UInt8 := [80, 82, 79, 68, 73, 68, 58]
def kName : List UInt8 := [78, 65, 77, 69, 58]
def kRevision : List UInt8 := [82, 69, 86, 73, 83, 73, 79, 78, 58]
def kEvent : List UInt8 := [66, 69, 71, 73, 78, 58, 86, 69, 86, 69, 78, 84]

theorem prefix_app (k l : List UInt8) : Lib.hasPrefix (k ++ l) k = true := by
  unfold Lib.hasPrefix; simp
theorem trim_app (k l : List UInt8) : Lib.trimPrefix (k ++ l) k = l := by
  unfold Lib.trimPrefix; simp [prefix_app]

structure Heads (xs : List ByteArray) (n : ByteArray) (v : Nat) (x0 x1 x2 x3 x4 x5 : ByteArray) : Prop where
  is : xs = [x0, x1, x2, x3, x4, x5]
  p0 : Lib.hasPrefix x0.data.toList kBegin = true
  p1 : Lib.hasPrefix x1.data.toList kVersion = true
  p2 : Lib.hasPrefix x2.data.toList kProdid = true
  p3 : Lib.hasPrefix x3.data.toList kName = true
  p4 : Lib.hasPrefix x4.data.toList kRevision = true
  p5 : Lib.hasPrefix x5.data.toList kEvent = false
  t3 : (⟨(Lib.trimPrefix x3.data.toList kName).toArray⟩ : ByteArray) = n
  t4 : (⟨(Lib.trimPrefix x4.data.toList kRevision).toArray⟩ : ByteArray) = str (Lib.decDigits v)
  no : ∀ x ∈ xs, Lib.hasPrefix x.data.toList [88, 45] = false

theorem heads (n : ByteArray) (v : Nat) : ∃ x0 x1 x2 x3 x4 x5, Heads (lines0 n v) n v x0 x1 x2 x3 x4 x5 := by
  refine ⟨_, _, _, _, _, _, rfl, by decide, by decide, by decide, prefix_app kName _, prefix_app kRevision _, by decide, ?_, ?_, ?_⟩
  · show (⟨(Lib.trimPrefix (kName ++ n.data.toList) kName).toArray⟩ : ByteArray) = n
    rw [trim_app, Lib.mk_data]
  · show (⟨(Lib.trimPrefix (kRevision ++ Lib.decDigits v) kRevision).toArray⟩ : ByteArray) = _
    rw [trim_app]; rfl
  · intro x hx; simp only [lines0, List.mem_cons, List.not_mem_nil, or_false] at hx
    rcases hx with rfl | rfl | rfl | rfl | rfl | rfl
    all_goals rfl

theorem map_data_inj {xs ys : List ByteArray} (h : xs.map (·.data.toList) = ys.map (·.data.toList)) : xs = ys := by
  have := congrArg (List.map (fun l : List UInt8 => (⟨l.toArray⟩ : ByteArray))) h
  simpa [List.map_map, Function.comp_def, Lib.mk_data] using this

/-- A feed in block f. -/
def FeedB (f : Nat) (n : ByteArray) (v : Int) (ev : Value) (w : World) : Prop := w.heap[f]? = some (.cells #[.string n, .int .i64 v, ev] 49 (0, 0))

theorem FeedB.block {f : Nat} {n : ByteArray} {v : Int} {ev : Value} {w w' : World} (h : FeedB f n v ev w) (hw : w'.heap[f]? = w.heap[f]?) : FeedB f n v ev w' := hw.trans h
theorem FeedB.lt {f : Nat} {n : ByteArray} {v : Int} {ev : Value} {w : World} (h : FeedB f n v ev w) : f < w.heap.size := (Array.getElem?_eq_some_iff.1 h).1
theorem FeedB.c0 {f : Nat} {n : ByteArray} {v : Int} {ev : Value} {w : World} (h : FeedB f n v ev w) : w.cell? ⟨f, 0, none⟩ = some (.string n) := by rw [Lib.cell_of_heap h]; rfl
theorem FeedB.c1 {f : Nat} {n : ByteArray} {v : Int} {ev : Value} {w : World} (h : FeedB f n v ev w) : w.cell? ⟨f, 1, none⟩ = some (.int .i64 v) := by rw [Lib.cell_of_heap h]; rfl
theorem FeedB.c2 {f : Nat} {n : ByteArray} {v : Int} {ev : Value} {w : World} (h : FeedB f n v ev w) : w.cell? ⟨f, 2, none⟩ = some ev := by rw [Lib.cell_of_heap h]; rfl
theorem FeedB.fr {f : Nat} {n : ByteArray} {v : Int} {ev : Value} {w : World} (h : FeedB f n v ev w) (i : Nat) : w.frozen? ⟨f, i, none⟩ = false := Lib.frozen_of_heap h i
theorem FeedB.name {f : Nat} {n n' : ByteArray} {v : Int} {ev : Value} {w : World} (h : FeedB f n v ev w) : FeedB f n' v ev (w.setCell ⟨f, 0, none⟩ (.string n')) := by
  unfold FeedB at h ⊢
  simp [World.setCell, Array.getElem?_modify, h]
theorem FeedB.rev {f : Nat} {n : ByteArray} {v v' : Int} {ev : Value} {w : World} (h : FeedB f n v ev w) : FeedB f n v' ev (w.setCell ⟨f, 1, none⟩ (.int .i64 v')) := by
  unfold FeedB at h ⊢
  simp [World.setCell, Array.getElem?_modify, h]
theorem FeedB.evs {f : Nat} {n : ByteArray} {v : Int} {ev ev' : Value} {w : World} (h : FeedB f n v ev w) : FeedB f n v ev' (w.setCell ⟨f, 2, none⟩ ev') := by
  unfold FeedB at h ⊢
  simp [World.setCell, Array.getElem?_modify, h]

theorem Par.other {b g o cap : Nat} {xs : List ByteArray} {z : ByteArray} {bad : Bool} {w w' : World} (h : Par b g o cap xs z bad w) (h1 : w'.heap[b]? = w.heap[b]?) (h2 : w'.heap[g]? = w.heap[g]?) : Par b g o cap xs z bad w' :=
  ⟨h1.trans h.hb, fun j x hx => by
    obtain ⟨a, ha, hc⟩ := h.str j x hx
    refine ⟨a, ha, ?_⟩
    cases ha
    rw [addr_add2] at hc ⊢
    rw [World.cell?_of_block (w := w) h2]
    exact hc, h.le, h.ne⟩

theorem strAt_block {w w' : World} {g : Nat} {xs : List ByteArray} (h : StrAt w (some ⟨g, 0, none⟩) xs) (hw : w'.heap[g]? = w.heap[g]?) : StrAt w' (some ⟨g, 0, none⟩) xs := fun j x hx => by
  obtain ⟨a, ha, hc⟩ := h j x hx
  refine ⟨a, ha, ?_⟩
  cases ha
  rw [addr_add2] at hc ⊢
  rw [World.cell?_of_block (w := w) hw]
  exact hc

theorem parse_start (r g cap : Nat) (xs : List ByteArray) (z : ByteArray) (w w1 : World) (q : Nat) (hg1 : r + 1 ≤ g) (hg2 : g < w1.heap.size) (hcap : xs.length ≤ cap) (hs : StrAt w1 (some ⟨g, 0, none⟩) xs) (L1 : Below r w w1) (R1 : FeedB r ⟨#[]⟩ 0 (.slice none 0 0) w1) :
    ∃ W, W = (((w1.drewN q).alloc (.cells #[.slice (some ⟨g, 0, none⟩) xs.length cap, .string z, .bool false] 191)).alloc (.cells #[.string ⟨#[]⟩, .int .i64 0, .slice none 0 0] 49)) ∧
      Par w1.heap.size g 0 cap xs z false W ∧ FeedB (w1.heap.size + 1) ⟨#[]⟩ 0 (.slice none 0 0) W ∧ FeedB r ⟨#[]⟩ 0 (.slice none 0 0) W ∧ Below r w W ∧ StrAt W (some ⟨g, 0, none⟩) xs ∧ w1.heap.size + 2 ≤ W.heap.size := by
  refine ⟨_, rfl, ?_⟩
  have hb : Below w1.heap.size w1 (((w1.drewN q).alloc (.cells #[.slice (some ⟨g, 0, none⟩) xs.length cap, .string z, .bool false] 191)).alloc (.cells #[.string ⟨#[]⟩, .int .i64 0, .slice none 0 0] 49)) := by
    have h1 : Below w1.heap.size w1 (w1.drewN q) := ⟨rfl, rfl, rfl, Nat.le_refl _, fun k hk => rfl⟩
    exact (h1.alloc (by simp) _).alloc (by simp) _
  have h2 := heap_alloc_new ((w1.drewN q).alloc (.cells #[.slice (some ⟨g, 0, none⟩) xs.length cap, .string z, .bool false] 191)) (.cells #[.string ⟨#[]⟩, .int .i64 0, .slice none 0 0] 49)
  have h3 := heap_alloc_new (w1.drewN q) (.cells #[.slice (some ⟨g, 0, none⟩) xs.length cap, .string z, .bool false] 191)
  have h4 := Lib.alloc_old ((w1.drewN q).alloc (.cells #[.slice (some ⟨g, 0, none⟩) xs.length cap, .string z, .bool false] 191)) (.cells #[.string ⟨#[]⟩, .int .i64 0, .slice none 0 0] 49) w1.heap.size (by simp)
  have h5 := strAt_block hs (hb.block g hg2)
  refine ⟨⟨h4.trans (by simpa using h3), h5, hcap, by omega⟩, by unfold FeedB; simpa using h2, (hb.block r R1.lt).trans R1, L1.trans (hb.mono (by omega)), h5, by simp⟩

set_option maxHeartbeats 4000000 in
set_option maxRecDepth 100000 in
theorem parse_none (s n z : ByteArray) (v : Nat) (hs : s.size ≤ 262144) (hc : Tt.code n.data.toList = true) (hz : Tt.code z.data.toList = true) (hn : n.size ≤ 1000) (hv : v ≤ 64) (hd : (Lib.decDigits v).length ≤ 18) (ha : Lib.atoi (Lib.decDigits v) = some (v : Int))
    (hu : Tt.unf s.data.toList = some ((lines0 n v).map (·.data.toList))) (w : World) (m : Int) (hm : w.cell? ⟨0, 0, none⟩ = some (.int .i64 m)) (h0 : 0 < w.heap.size) :
    Calls Tryz.prog 53 #[.string s, .string z] w fun e w' => e = .returned (.tuple #[.agg #[.string n, .int .i64 v, .slice none 0 0], .int .i64 0]) ∧ Below w.heap.size w w' := by
  have HZ := Lib.hid hz; obtain ⟨x0, x1, x2, x3, x4, x5, HH⟩ := heads n v
  have HHH := Lib.hid HH; have HV := Lib.hid (fun W => valid_none n v hc (by omega) (by omega) W)
  have HWR := Lib.hid (fun W => written_none n z v hn (by omega) (by omega) W)
  have HU := Lib.hid hu; have HA := Lib.hid ha; have L0 : Below w.heap.size w (w.alloc (.cells #[.string ⟨#[]⟩, .int .i64 0, .slice none 0 0] 49)) := (Below.refl _ w).alloc (Nat.le_refl _) _
  have R0 : FeedB w.heap.size ⟨#[]⟩ 0 (.slice none 0 0) (w.alloc (.cells #[.string ⟨#[]⟩, .int .i64 0, .slice none 0 0] 49)) := heap_alloc_new w _
  have hm0 := (L0.cell (p := ⟨0, 0, none⟩) h0).trans hm
  have hsi : ¬ ((262144 : Int) < (s.size : Int)) := by omega
  clear hz hc ha hu HH hm; go_enter Tryz.func53, Tryz.ntmps53
  go_wp2_with fail
  refine (code_any _ _).mono ?_
  rintro e w1 ⟨rfl, hw⟩; rw [hw]
  clear hw w1; rw [HZ.out]
  go_wp2_with fail
  refine (unfold_any s (by omega) _ m hm0).mono ?_
  rintro e w1 ⟨hU, hb1⟩; obtain ⟨g, cap, xs, hxs, rfl, hstr, hg1, hg2, hcap, _⟩ : ∃ (g cap : Nat) (xs : List ByteArray), xs = lines0 n v ∧ e = .returned (.tuple #[.slice (some ⟨g, 0, none⟩) xs.length cap, .bool true]) ∧ StrAt w1 (some ⟨g, 0, none⟩) xs ∧ w.heap.size + 1 ≤ g ∧ g < w1.heap.size ∧ xs.length ≤ cap ∧ True := by
    rcases hU with ⟨h1, _⟩ | ⟨g, cap, xs, h1, h2, h3, h4, h5, h6, _⟩
    · rw [HU.out] at h1; cases h1
    · rw [HU.out] at h1
      exact ⟨g, cap, xs, (map_data_inj (Option.some.inj h1)).symm, h2, h3, by simpa using h4, h5, h6, trivial⟩
  have HXS := Lib.hid hxs; have hln : xs.length ≤ 6 := by rw [hxs]; exact Nat.le_refl 6
  have hno : ∀ x ∈ xs, Lib.hasPrefix x.data.toList [88, 45] = false := by rw [hxs]; exact HHH.out.no
  have HNO := Lib.hid hno; have HSTR := Lib.hid hstr; have L1 := L0.trans (hb1.mono (by simp))
  have R1 : FeedB w.heap.size ⟨#[]⟩ 0 (.slice none 0 0) w1 := (hb1.block _ (by simp)).trans R0
  have s1 : w.heap.size + 1 ≤ w1.heap.size := by have := hb1.size; simpa using this
  clear hxs hno hstr hm0 L0 R0 hb1 hU; go_wp2_with fail
  refine (delete_none _ _ _ _ (by omega) HSTR.out HNO.out).mono ?_
  rintro e w2 ⟨rfl, q, hw⟩; rw [hw]
  clear hw w2; go_wp2_with fail
  obtain ⟨W, hW, P0, F0, R2, L2, T2, s2⟩ := parse_start w.heap.size g cap xs z w w1 q hg1 hg2 hcap HSTR.out L1 R1
  have HW := Lib.hid hW; obtain ⟨p, hp⟩ : ∃ p, p = w1.heap.size := ⟨_, rfl⟩
  have HP := Lib.hid hp; rw [← HP.out] at P0 F0 s2 s1 hg2
  have hrp : w.heap.size < p := by omega
  have hgl : g < W.heap.size := by omega
  have P0' : Par p g 0 cap [x0, x1, x2, x3, x4, x5] z false W := by
    have := P0
    rw [HXS.out, HHH.out.is] at this
    exact this
  clear hW hp P0 L1 R1 hcap; rw [← HW.out, ← HP.out]; refine (take_any p g _ _ _ _ z _ _ W P0' HHH.out.p0).mono ?_
  rintro e w3 ⟨rfl, ⟨o3, c3, P3⟩, K3⟩
  clear P0'; go_wp2_with fail
  refine (take_any p g _ _ _ _ z _ _ w3 P3 HHH.out.p1).mono ?_
  rintro e w4 ⟨rfl, ⟨o4, c4, P4⟩, K4⟩
  clear P3; go_wp2_with fail
  refine (take_any p g _ _ _ _ z _ _ w4 P4 HHH.out.p2).mono ?_
  rintro e w5 ⟨rfl, ⟨o5, c5, P5⟩, K5⟩
  clear P4; go_wp2_with fail
  refine (take_any p g _ _ _ _ z _ _ w5 P5 HHH.out.p3).mono ?_
  rintro e w6 ⟨rfl, ⟨o6, c6, P6⟩, K6⟩
  have K : Only p W w6 := ((K3.trans K4).trans K5).trans K6
  have F6 := F0.block (K.2.2.2.2 (p + 1) (by omega))
  have R6 := R2.block (K.2.2.2.2 w.heap.size (by omega))
  have T6 := strAt_block T2 (K.2.2.2.2 g (by have := P6.ne; omega))
  have L6 := L2.trans (K.below (by omega))
  have s6 : W.heap.size ≤ w6.heap.size := Nat.le_of_eq K.2.2.2.1.symm
  clear P5 K3 K4 K5 K6 K F0 R2 T2 L2; have hf := F6.fr 0; have cf := F6.c0; have hgp : g < p := hg2
  go_wp2_with fail
  obtain ⟨w7, hw7⟩ : ∃ w7, w7 = w6.setCell ⟨p + 1, 0, none⟩ (.string ⟨(Lib.trimPrefix x3.data.toList [78, 65, 77, 69, 58]).toArray⟩) := ⟨_, rfl⟩
  rw [← hw7]; have h67 : ∀ k, k ≠ p + 1 → w7.heap[k]? = w6.heap[k]? := fun k hk => by rw [hw7]; exact Below.heap_setCell _ _ _ _ hk
  have F7 : FeedB (p + 1) n 0 (.slice none 0 0) w7 := by
    rw [hw7, ← HHH.out.t3]; exact F6.name
  have P7 := P6.other (h67 p (by omega)) (h67 g (by omega))
  have R7 := R6.block (h67 w.heap.size (by omega))
  have T7 := strAt_block T6 (h67 g (by omega))
  have L7 : Below w.heap.size w w7 := by rw [hw7]; exact L6.setCell (by simp; omega) _
  have s7 : W.heap.size ≤ w7.heap.size := by rw [hw7]; simpa [World.setCell] using s6
  have hp7 : Hid (p + 2 ≤ w7.heap.size) := F7.lt
  clear hf cf hw7 h67 F6 P6 R6 T6 L6 s6; refine (take_any p g _ _ _ _ z _ _ w7 P7 HHH.out.p4).mono ?_
  rintro e w8 ⟨rfl, ⟨o8, c8, P8⟩, K8⟩
  clear P7; go_wp2_with fail
  have h18 := HHH.out.t4; unfold kRevision at h18
  rw [h18]
  refine (number_any p g _ _ _ z (str (Lib.decDigits v)) v (by rw [Lib.size_eq]; exact hd) HA.out w8 P8 (by rw [K8.2.2.2.1]; omega)).mono ?_
  rintro e w9 ⟨rfl, P9, K9⟩; have h79 : ∀ k, k < w7.heap.size → k ≠ p → w9.heap[k]? = w7.heap[k]? := fun k hk hkp => (K9.block k (by rw [K8.2.2.2.1]; exact hk) hkp).trans (K8.2.2.2.2 k hkp)
  have F9 := F7.block (h79 (p + 1) F7.lt (by omega))
  have R9 := R7.block (h79 w.heap.size R7.lt (by omega))
  have T9 := strAt_block T7 (h79 g (by omega) (by omega))
  have s9 : W.heap.size ≤ w9.heap.size := by have := K9.size; rw [K8.2.2.2.1] at this; omega
  have L9 := L7.trans ((K8.below (by omega : w.heap.size ≤ p)).trans (K9.below (by omega) (by rw [K8.2.2.2.1]; omega)))
  have hf := F9.fr 1; have cf := F9.c1; have cb := P9.c2; have hcb : (w9.setCell ⟨p + 1, 1, none⟩ (.int .i64 v)).cell? ⟨p, 2, none⟩ = some (.bool false) := by
    rw [World.cell?_of_block (w := w9) (Below.heap_setCell _ _ _ _ (by simp))]; exact cb
  clear P8 K8 K9 h79 F7 R7 T7 L7 s7 hp7 h18; go_wp2_with fail
  obtain ⟨w10, hw10⟩ : ∃ w10, w10 = w9.setCell ⟨p + 1, 1, none⟩ (.int .i64 v) := ⟨_, rfl⟩
  rw [← hw10]; have h67 : ∀ k, k ≠ p + 1 → w10.heap[k]? = w9.heap[k]? := fun k hk => by rw [hw10]; exact Below.heap_setCell _ _ _ _ hk
  have F10 : FeedB (p + 1) n v (.slice none 0 0) w10 := by rw [hw10]; exact F9.rev
  have P10 := P9.other (h67 p (by omega)) (h67 g (by omega))
  have R10 := R9.block (h67 w.heap.size (by omega))
  have T10 := strAt_block T9 (h67 g (by omega))
  have L10 : Below w.heap.size w w10 := by rw [hw10]; exact L9.setCell (by simp; omega) _
  have s10 : W.heap.size ≤ w10.heap.size := by rw [hw10]; simpa [World.setCell] using s9
  clear hf cf cb hcb hw10 h67 F9 P9 R9 T9 L9 s9; have cb := P10.c2; go_loopg [] 0 (fun _ wx => wx = w10)
  case atStart => exact rfl
  case round =>
    obtain rfl := hrel
    go_wp2_with fail
    refine (see_any p g _ _ _ _ z _ _ wr P10).mono ?_
    rintro e w11 ⟨rfl, hw⟩; rw [hw, show Lib.hasPrefix x5.data.toList (⟨#[66, 69, 71, 73, 78, 58, 86, 69, 86, 69, 78, 84]⟩ : ByteArray).data.toList = false from HHH.out.p5]
    clear hw w11; have cf0 := F10.c0; have cf1 := F10.c1; have cf2 := F10.c2; go_wp2_with fail
    refine (HV.out _).mono ?_
    rintro e w11 ⟨rfl, hb11⟩; have F11 := F10.block (hb11.block _ F10.lt)
    have R11 := R10.block (hb11.block _ R10.lt)
    have T11 := strAt_block T10 (hb11.block g (by omega))
    have s11 : W.heap.size ≤ w11.heap.size := by have := hb11.size; omega
    have L11 := L10.trans (hb11.mono (by omega))
    clear cf0 cf1 cf2 cb P10 F10 R10 T10 L10 hb11; have cf0 := F11.c0; have cf1 := F11.c1; have cf2 := F11.c2; go_wp2_with fail
    refine (HWR.out _).mono ?_
    rintro e w12 ⟨g2, cap2, rfl, T2, _, _, hb12⟩; have F12 := F11.block (hb12.block _ F11.lt)
    have R12 := R11.block (hb12.block _ R11.lt)
    have T12 := strAt_block T11 (hb12.block g (by omega))
    have s12 : W.heap.size ≤ w12.heap.size := by have := hb12.size; omega
    have L12 := L11.trans (hb12.mono (by omega))
    have hTT := Lib.hid T2; clear cf0 cf1 cf2 F11 R11 T11 L11 hb12 T2; go_wp2_with fail
    refine (equal_any _ _ _ _ _ _ (lines0 n v) xs rfl rfl (by show 6 ≤ _; omega) (by omega) w12 hTT.out T12).mono ?_
    rintro e w13 ⟨rfl, q2, hw⟩; rw [hw, show decide (lines0 n v = xs) = true from decide_eq_true HXS.out.symm]
    clear hw w13; have F13 : FeedB (p + 1) n v (.slice none 0 0) (w12.drewN q2) := F12
    have R13 : FeedB w.heap.size ⟨#[]⟩ 0 (.slice none 0 0) (w12.drewN q2) := R12
    have L13 : Below w.heap.size w (w12.drewN q2) := L12.trans ⟨rfl, rfl, rfl, Nat.le_refl _, fun k hk => rfl⟩
    obtain ⟨w13, hw⟩ : ∃ w13, w13 = w12.drewN q2 := ⟨_, rfl⟩
    rw [← hw] at F13 R13 L13 ⊢
    clear hw F12 R12 T12 L12 hTT; have cf0 := F13.c0; have cf1 := F13.c1; have cf2 := F13.c2; have cr0 := R13.c0; have cr1 := R13.c1; have cr2 := R13.c2; have fr0 := R13.fr 0; have fr1 := R13.fr 1; have fr2 := R13.fr 2; go_wp2_with fail
    obtain ⟨w14, hw⟩ : ∃ w14, w14 = ((w13.setCell ⟨w.heap.size, 0, none⟩ (.string n)).setCell ⟨w.heap.size, 1, none⟩ (.int .i64 v)).setCell ⟨w.heap.size, 2, none⟩ (.slice none 0 0) := ⟨_, rfl⟩
    rw [← hw]; have R14 : FeedB w.heap.size n v (.slice none 0 0) w14 := by rw [hw]; exact R13.name.rev.evs
    have L14 : Below w.heap.size w w14 := by
      rw [hw]; exact ((L13.setCell (Nat.le_refl _) _).setCell (Nat.le_refl _) _).setCell (Nat.le_refl _) _
    clear hw cf0 cf1 cf2 cr0 cr1 cr2 fr0 fr1 fr2; have cr0 := R14.c0; have cr1 := R14.c1; have cr2 := R14.c2; refine bodyPost_ret (v := .tuple #[.agg #[.string n, .int .i64 v, .slice none 0 0], .int .i64 0]) (by simp [results, Tryz.results53, go_sem, cr0, cr1, cr2]) rfl ?_
    exact ⟨rfl, L14⟩
end Go.Proofs.YtcomifbfldoeiaaGreatDoor
