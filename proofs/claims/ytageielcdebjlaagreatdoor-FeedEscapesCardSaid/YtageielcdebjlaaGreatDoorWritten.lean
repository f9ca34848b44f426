/- The lines of a feed without events, and that such a feed is valid. -/
import Derived.Test.YtageielcdebjlaaGreatDoorPut
import Derived.Test.YtageielcdebjlaaGreatDoorCodes
import Derived.Deep.LoopGhost
namespace Go.Proofs.YtageielcdebjlaaGreatDoor
open Go.RowKit

theorem Buf.kept {b B : Nat} {xs : List ByteArray} {w w' : World} (h : Buf b B xs w) (hw : Below w.heap.size w w') : Buf b B xs w' := by
  obtain ⟨v, h1, h2⟩ := h.ex
  exact ⟨h.lt, v, (hw.block b (Array.getElem?_eq_some_iff.1 h1).1).trans h1, ownsRow_below h2 hw⟩

theorem put_parts (b B pb : Nat) (xs parts : List ByteArray) (W : World) (hpb : pb = W.heap.size) (hb : Buf b B xs W) (hB : B ≤ W.heap.size) (hn : parts.length ≤ 1000)
    (hlen : (parts.map (·.data.toList)).flatten.length ≤ 140737488355328) (hx : xs.length ≤ 1000000) :
    Calls Tryz.prog 172 #[.pointer (some ⟨b, 0, none⟩), .slice (some ⟨pb, 0, none⟩) parts.length parts.length] (W.alloc (.cells (parts.map Value.string).toArray 9)) fun e w' => e = .returned (.tuple #[]) ∧ Buf b B (xs ++ [⟨((parts.map (·.data.toList)).flatten).toArray⟩]) w' ∧ But b B W w' := by
  subst hpb
  have hal : Below W.heap.size W (W.alloc (.cells (parts.map Value.string).toArray 9)) := (Below.refl _ _).alloc (Nat.le_refl _) _
  refine (put_any b B xs parts W.heap.size 0 parts.length _ (hb.kept hal) (by simp; omega) ?_ (by simp) (Nat.le_refl _) hn hlen hx).mono ?_
  · intro j x hj
    rw [Nat.zero_add, World.cell?_alloc_at _ _ _ _ rfl]
    simp [hj]
  · rintro e w' ⟨h1, h2, h3⟩
    exact ⟨h1, h2, (But.of_below (hal.mono hB)).trans h3⟩

set_option maxHeartbeats 4000000 in
set_option maxRecDepth 100000 in
theorem valid_none (n : ByteArray) (v : Int) (hc : Tt.code n.data.toList = true) (h0 : 0 ≤ v) (h1 : v ≤ 64) (w : World) :
    Calls Tryz.prog 46 #[.agg #[.string n, .int .i64 v, .slice none 0 0]] w fun e w' => e = .returned (.int .i64 0) ∧ Below w.heap.size w w' := by
  have HC := Lib.hid hc
  clear hc
  have q1 : decide (v < 0) = false := decide_eq_false (by omega)
  have q2 : decide (64 < v) = false := decide_eq_false (by omega)
  go_enter Tryz.func46, Tryz.ntmps46
  go_wp2_with (go_at_call 94; refine (code_any _ _).mono ?_; rintro e w' ⟨rfl, rfl⟩; rw [HC.out])
  go_loopg [28] 0 (fun _ i wx => i = .int .i64 0 ∧ wx = w.alloc (.cells #[.string n, .int .i64 v, .slice none 0 0] 26))
  case atStart => exact ⟨rfl, rfl⟩
  case round =>
    obtain ⟨rfl, rfl⟩ := hrel
    go_wp2_with fail
    go_ret
    exact ⟨rfl, (Below.refl _ _).alloc (Nat.le_refl _) _⟩

def str (l : List UInt8) : ByteArray := ⟨l.toArray⟩

/-- The lines of a feed without events. -/
def lines0 (n : ByteArray) (v : Nat) : List ByteArray :=
  [str [66, 69, 71, 73, 78, 58, 86, 67, 65, 76, 69, 78, 68, 65, 82], str [86, 69, 82, 83, 73, 79, 78, 58, 50, 46, 48], str [80, 82, 79, 68, 73, 68, 58, 45, 47, 47, 116, 105, 109, 101, 116, 97, 98, 108, 101, 47, 47, 69, 78],
    str ([78, 65, 77, 69, 58] ++ n.data.toList), str ([82, 69, 86, 73, 83, 73, 79, 78, 58] ++ Lib.decDigits v), str [69, 78, 68, 58, 86, 67, 65, 76, 69, 78, 68, 65, 82]]

/-- The three cells of a boxed feed, and that they are kept. -/
structure FeedAt (b : Nat) (n : ByteArray) (v : Int) (ev : Value) (w : World) : Prop where
  c0 : w.cell? ⟨b, 0, none⟩ = some (.string n)
  c1 : w.cell? ⟨b, 1, none⟩ = some (.int .i64 v)
  c2 : w.cell? ⟨b, 2, none⟩ = some ev

theorem FeedAt.but {a b B : Nat} {n : ByteArray} {v : Int} {ev : Value} {w w' : World} (h : FeedAt a n v ev w) (hw : But b B w w') (h1 : a < B) (h2 : a ≠ b) : FeedAt a n v ev w' :=
  ⟨(hw.cell (p := ⟨a, 0, none⟩) h1 h2).trans h.c0, (hw.cell (p := ⟨a, 1, none⟩) h1 h2).trans h.c1, (hw.cell (p := ⟨a, 2, none⟩) h1 h2).trans h.c2⟩

theorem written_start (n : ByteArray) (v : Int) (ev : Value) (w : World) :
    FeedAt w.heap.size n v ev ((w.alloc (.cells #[.string n, .int .i64 v, ev] 26)).alloc (.cells #[.slice none 0 0] 210)) ∧
    Buf (w.heap.size + 1) (w.heap.size + 2) [] ((w.alloc (.cells #[.string n, .int .i64 v, ev] 26)).alloc (.cells #[.slice none 0 0] 210)) ∧
    Below w.heap.size w ((w.alloc (.cells #[.string n, .int .i64 v, ev] 26)).alloc (.cells #[.slice none 0 0] 210)) ∧
    ((w.alloc (.cells #[.string n, .int .i64 v, ev] 26)).alloc (.cells #[.slice none 0 0] 210)).heap.size = w.heap.size + 2 := by
  have h1 : ((w.alloc (.cells #[.string n, .int .i64 v, ev] 26)).alloc (.cells #[.slice none 0 0] 210)).heap[w.heap.size]? = some (.cells #[.string n, .int .i64 v, ev] 26 (0, 0)) := by
    rw [Lib.alloc_old _ _ _ (by simp)]; exact heap_alloc_new w _
  have h2 : ((w.alloc (.cells #[.string n, .int .i64 v, ev] 26)).alloc (.cells #[.slice none 0 0] 210)).heap[w.heap.size + 1]? = some (.cells #[.slice none 0 0] 210 (0, 0)) := by
    have := heap_alloc_new (w.alloc (.cells #[.string n, .int .i64 v, ev] 26)) (.cells #[.slice none 0 0] 210)
    simpa using this
  refine ⟨⟨?_, ?_, ?_⟩, ⟨by omega, .slice none 0 0, h2, World.ownsRow_nil _ _ _ _⟩, ((Below.refl _ w).alloc (Nat.le_refl _) _).alloc (by simp) _, by simp⟩
  all_goals (rw [Lib.cell_of_heap h1]; rfl)

set_option maxHeartbeats 4000000 in
set_option maxRecDepth 100000 in
theorem written_none (n z : ByteArray) (v : Nat) (hn : n.size ≤ 1000) (h1 : v < 100) (hd : (Lib.decDigits v).length ≤ 1000) (w : World) :
    Calls Tryz.prog 100 #[.agg #[.string n, .int .i64 v, .slice none 0 0], .string z] w fun e w' => ∃ g cap, e = .returned (.slice (some ⟨g, 0, none⟩) (lines0 n v).length cap) ∧ StrAt w' (some ⟨g, 0, none⟩) (lines0 n v) ∧ w.heap.size ≤ g ∧ g < w'.heap.size ∧ Below w.heap.size w w' := by
  have hnl : n.data.toList.length ≤ 1000 := by rw [← Lib.size_eq]; exact hn
  obtain ⟨W0, hW0⟩ : ∃ W0, W0 = (w.alloc (.cells #[.string n, .int .i64 v, .slice none 0 0] 26)).alloc (.cells #[.slice none 0 0] 210) := ⟨_, rfl⟩
  have HS := written_start n v (.slice none 0 0) w
  rw [← hW0] at HS
  obtain ⟨F0, B0, L0, S0⟩ := HS
  have HW0 := Lib.hid hW0
  have HS0 := Lib.hid S0
  have hs0 : w.heap.size + 2 ≤ W0.heap.size := by omega
  clear hW0 S0
  go_enter Tryz.func100, Tryz.ntmps100
  go_wp2_with fail
  rw [← HW0.out]
  refine (put_parts (w.heap.size + 1) (w.heap.size + 2) _ [] [_] W0 (by rw [HS0.out]) B0 (by omega) (by simp) (by simp) (by simp)).mono ?_
  rintro e w1 ⟨rfl, B1, K1⟩
  have F1 := F0.but K1 (by omega) (by omega)
  have s1 := K1.size
  go_wp2_with fail
  refine (put_parts (w.heap.size + 1) (w.heap.size + 2) _ _ [_] w1 rfl B1 (by omega) (by simp) (by simp) (by simp)).mono ?_
  rintro e w2 ⟨rfl, B2, K2⟩
  have F2 := F1.but K2 (by omega) (by omega)
  have s2 := K2.size
  go_wp2_with fail
  refine (put_parts (w.heap.size + 1) (w.heap.size + 2) _ _ [_] w2 rfl B2 (by omega) (by simp) (by simp) (by simp)).mono ?_
  rintro e w3 ⟨rfl, B3, K3⟩
  have F3 := F2.but K3 (by omega) (by omega)
  have s3 := K3.size
  have c0 := F3.c0
  go_wp2_with fail
  refine (put_parts (w.heap.size + 1) (w.heap.size + 2) _ _ [_, _] w3 rfl B3 (by omega) (by simp) (by simp; omega) (by simp)).mono ?_
  rintro e w4 ⟨rfl, B4, K4⟩
  have F4 := F3.but K4 (by omega) (by omega)
  have s4 := K4.size
  clear c0
  have c1 := F4.c1
  go_wp2_with fail
  refine (Tryz.strconv_Itoa_small v h1 _).mono ?_
  rintro e w4' ⟨rfl, rfl⟩
  clear c1
  go_wp2_with fail
  refine (put_parts (w.heap.size + 1) (w.heap.size + 2) _ _ [_, _] _ rfl B4 (by omega) (by simp) (by simp; omega) (by simp)).mono ?_
  rintro e w5 ⟨rfl, B5, K5⟩
  have F5 := F4.but K5 (by omega) (by omega)
  have s5 := K5.size
  have c2 := F5.c2
  go_wp2_with fail
  clear c2
  go_loopg [33] 0 (fun _ i wx => i = .int .i64 0 ∧ wx = w5)
  case atStart => exact ⟨rfl, rfl⟩
  case round =>
    obtain ⟨rfl, rfl⟩ := hrel
    go_wp2_with fail
    refine (put_parts (w.heap.size + 1) (w.heap.size + 2) _ _ [_] wr rfl B5 (by omega) (by simp) (by simp) (by simp)).mono ?_
    rintro e w6 ⟨rfl, B6, K6⟩
    have B7 : Buf (w.heap.size + 1) (w.heap.size + 2) (lines0 n v) w6 := by
      have := B6
      simpa [lines0, str] using this
    obtain ⟨x, h6, o6⟩ := B7.ex
    have cb : w6.cell? ⟨w.heap.size + 1, 0, none⟩ = some x := by rw [Lib.cell_of_heap h6]; rfl
    obtain ⟨g, cap, hx⟩ : ∃ g cap, x = .slice (some ⟨g, 0, none⟩) 6 cap := by
      rcases o6.2 with ⟨_, h0⟩ | ⟨g, cap, cur, hv, _⟩
      · simp [lines0] at h0
      · exact ⟨g, cap, hv⟩
    rw [hx] at cb o6
    have HO := Lib.hid o6
    have K := ((((K1.trans K2).trans K3).trans K4).trans K5).trans K6
    clear hx h6 o6 B0 B1 B2 B3 B4 B5 B6 B7 F0 F1 F2 F3 F4 F5 K1 K2 K3 K4 K5 K6
    go_wp2_with fail
    go_ret
    refine ⟨g, cap, rfl, ?_, ?_, ?_, L0.trans (K.below (by omega) (by omega))⟩
    · intro j x hx
      exact ⟨_, rfl, HO.out.cells (g := g) rfl j (.string x) (by rw [List.getElem?_map, hx]; rfl)⟩
    · have := (HO.out.lt g rfl).1; omega
    · exact (HO.out.lt g rfl).2
end Go.Proofs.YtageielcdebjlaaGreatDoor
