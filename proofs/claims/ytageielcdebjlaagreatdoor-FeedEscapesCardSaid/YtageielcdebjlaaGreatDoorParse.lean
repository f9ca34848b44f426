/- feed.Parse of the text of a feed without events. -/
import Derived.Test.YtageielcdebjlaaGreatDoorTake
namespace Go.Proofs.YtageielcdebjlaaGreatDoor
open Go.RowKit

def kBegin : List UInt8 := [66, 69, 71, 73, 78, 58, 86, 67, 65, 76, 69, 78, 68, 65, 82]
def kVersion : List UInt8 := [86, 69, 82, 83, 73, 79, 78, 58]
def kProdid : List UInt8 := [80, 82, 79, 68, 73, 68, 58]
def kName : List UInt8 := [78, 65, 77, 69, 58]
def kRevision : List UInt8 := [82, 69, 86, 73, 83, 73, 79, 78, 58]
def kEvent : List UInt8 := [66, 69, 71, 73, 78, 58, 86, 69, 86, 69, 78, 84]

theorem prefix_app (k l : List UInt8) : Lib.hasPrefix (k ++ l) k = true := by
  unfold Lib.hasPrefix; simp
theorem trim_app (k l : List UInt8) : Lib.trimPrefix (k ++ l) k = l := by
  unfold Lib.trimPrefix; simp [prefix_app]

structure Heads (xs : List ByteArray) (n : ByteArray) (v : Nat) (x0 x1 x2 x3 x4 x5 : ByteArray) : Prop where
  is : xs = [x0, x1, x2, x3, x4, x5]
  p0 : Lib.hasPrefix x0.data.toList kBegin = true
  p1 : Lib.hasPrefix x1.data.toList kVersion = true
  p2 : Lib.hasPrefix x2.data.toList kProdid = true
  p3 : Lib.hasPrefix x3.data.toList kName = true
  p4 : Lib.hasPrefix x4.data.toList kRevision = true
  p5 : Lib.hasPrefix x5.data.toList kEvent = false
  t3 : (⟨(Lib.trimPrefix x3.data.toList kName).toArray⟩ : ByteArray) = n
  t4 : (⟨(Lib.trimPrefix x4.data.toList kRevision).toArray⟩ : ByteArray) = str (Lib.decDigits v)
  no : ∀ x ∈ xs, Lib.hasPrefix x.data.toList [88, 45] = false

theorem heads (n : ByteArray) (v : Nat) : ∃ x0 x1 x2 x3 x4 x5, Heads (lines0 n v) n v x0 x1 x2 x3 x4 x5 := by
  refine ⟨_, _, _, _, _, _, rfl, by decide, by decide, by decide, prefix_app kName _, prefix_app kRevision _, by decide, ?_, ?_, ?_⟩
  · show (⟨(Lib.trimPrefix (kName ++ n.data.toList) kName).toArray⟩ : ByteArray) = n
    rw [trim_app, Lib.mk_data]
  · show (⟨(Lib.trimPrefix (kRevision ++ Lib.decDigits v) kRevision).toArray⟩ : ByteArray) = _
    rw [trim_app]; rfl
  · intro x hx
    simp only [lines0, List.mem_cons, List.not_mem_nil, or_false] at hx
    rcases hx with rfl | rfl | rfl | rfl | rfl | rfl
    all_goals rfl

theorem map_data_inj {xs ys : List ByteArray} (h : xs.map (·.data.toList) = ys.map (·.data.toList)) : xs = ys := by
  have := congrArg (List.map (fun l : List UInt8 => (⟨l.toArray⟩ : ByteArray))) h
  simpa [List.map_map, Function.comp_def, Lib.mk_data] using this

/-- A feed in block f. -/
def FeedB (f : Nat) (n : ByteArray) (v : Int) (ev : Value) (w : World) : Prop := w.heap[f]? = some (.cells #[.string n, .int .i64 v, ev] 26 (0, 0))

theorem FeedB.block {f : Nat} {n : ByteArray} {v : Int} {ev : Value} {w w' : World} (h : FeedB f n v ev w) (hw : w'.heap[f]? = w.heap[f]?) : FeedB f n v ev w' := hw.trans h
theorem FeedB.lt {f : Nat} {n : ByteArray} {v : Int} {ev : Value} {w : World} (h : FeedB f n v ev w) : f < w.heap.size := (Array.getElem?_eq_some_iff.1 h).1
theorem FeedB.c0 {f : Nat} {n : ByteArray} {v : Int} {ev : Value} {w : World} (h : FeedB f n v ev w) : w.cell? ⟨f, 0, none⟩ = some (.string n) := by rw [Lib.cell_of_heap h]; rfl
theorem FeedB.c1 {f : Nat} {n : ByteArray} {v : Int} {ev : Value} {w : World} (h : FeedB f n v ev w) : w.cell? ⟨f, 1, none⟩ = some (.int .i64 v) := by rw [Lib.cell_of_heap h]; rfl
theorem FeedB.c2 {f : Nat} {n : ByteArray} {v : Int} {ev : Value} {w : World} (h : FeedB f n v ev w) : w.cell? ⟨f, 2, none⟩ = some ev := by rw [Lib.cell_of_heap h]; rfl
theorem FeedB.fr {f : Nat} {n : ByteArray} {v : Int} {ev : Value} {w : World} (h : FeedB f n v ev w) (i : Nat) : w.frozen? ⟨f, i, none⟩ = false := Lib.frozen_of_heap h i
theorem FeedB.name {f : Nat} {n n' : ByteArray} {v : Int} {ev : Value} {w : World} (h : FeedB f n v ev w) : FeedB f n' v ev (w.setCell ⟨f, 0, none⟩ (.string n')) := by
  unfold FeedB at h ⊢
  simp [World.setCell, Array.getElem?_modify, h]
theorem FeedB.rev {f : Nat} {n : ByteArray} {v v' : Int} {ev : Value} {w : World} (h : FeedB f n v ev w) : FeedB f n v' ev (w.setCell ⟨f, 1, none⟩ (.int .i64 v')) := by
  unfold FeedB at h ⊢
  simp [World.setCell, Array.getElem?_modify, h]
theorem FeedB.evs {f : Nat} {n : ByteArray} {v : Int} {ev ev' : Value} {w : World} (h : FeedB f n v ev w) : FeedB f n v ev' (w.setCell ⟨f, 2, none⟩ ev') := by
  unfold FeedB at h ⊢
  simp [World.setCell, Array.getElem?_modify, h]

theorem Par.other {b g o cap : Nat} {xs : List ByteArray} {z : ByteArray} {bad : Bool} {w w' : World} (h : Par b g o cap xs z bad w) (h1 : w'.heap[b]? = w.heap[b]?) (h2 : w'.heap[g]? = w.heap[g]?) : Par b g o cap xs z bad w' :=
  ⟨h1.trans h.hb, fun j x hx => by
    obtain ⟨a, ha, hc⟩ := h.str j x hx
    refine ⟨a, ha, ?_⟩
    cases ha
    rw [addr_add2] at hc ⊢
    rw [World.cell?_of_block (w := w) h2]
    exact hc, h.le, h.ne⟩

theorem strAt_block {w w' : World} {g : Nat} {xs : List ByteArray} (h : StrAt w (some ⟨g, 0, none⟩) xs) (hw : w'.heap[g]? = w.heap[g]?) : StrAt w' (some ⟨g, 0, none⟩) xs := fun j x hx => by
  obtain ⟨a, ha, hc⟩ := h j x hx
  refine ⟨a, ha, ?_⟩
  cases ha
  rw [addr_add2] at hc ⊢
  rw [World.cell?_of_block (w := w) hw]
  exact hc

theorem parse_start (r g cap : Nat) (xs : List ByteArray) (z : ByteArray) (w w1 : World) (q : Nat) (hg1 : r + 1 ≤ g) (hg2 : g < w1.heap.size) (hcap : xs.length ≤ cap) (hs : StrAt w1 (some ⟨g, 0, none⟩) xs) (L1 : Below r w w1) (R1 : FeedB r ⟨#[]⟩ 0 (.slice none 0 0) w1) :
    ∃ W, W = (((w1.drewN q).alloc (.cells #[.slice (some ⟨g, 0, none⟩) xs.length cap, .string z, .bool false] 160)).alloc (.cells #[.string ⟨#[]⟩, .int .i64 0, .slice none 0 0] 26)) ∧
      Par w1.heap.size g 0 cap xs z false W ∧ FeedB (w1.heap.size + 1) ⟨#[]⟩ 0 (.slice none 0 0) W ∧ FeedB r ⟨#[]⟩ 0 (.slice none 0 0) W ∧ Below r w W ∧ StrAt W (some ⟨g, 0, none⟩) xs ∧ w1.heap.size + 2 ≤ W.heap.size := by
  refine ⟨_, rfl, ?_⟩
  have hb : Below w1.heap.size w1 (((w1.drewN q).alloc (.cells #[.slice (some ⟨g, 0, none⟩) xs.length cap, .string z, .bool false] 160)).alloc (.cells #[.string ⟨#[]⟩, .int .i64 0, .slice none 0 0] 26)) := by
    have h1 : Below w1.heap.size w1 (w1.drewN q) := ⟨rfl, rfl, rfl, Nat.le_refl _, fun k hk => rfl⟩
    exact (h1.alloc (by simp) _).alloc (by simp) _
  have h2 := heap_alloc_new ((w1.drewN q).alloc (.cells #[.slice (some ⟨g, 0, none⟩) xs.length cap, .string z, .bool false] 160)) (.cells #[.string ⟨#[]⟩, .int .i64 0, .slice none 0 0] 26)
  have h3 := heap_alloc_new (w1.drewN q) (.cells #[.slice (some ⟨g, 0, none⟩) xs.length cap, .string z, .bool false] 160)
  have h4 := Lib.alloc_old ((w1.drewN q).alloc (.cells #[.slice (some ⟨g, 0, none⟩) xs.length cap, .string z, .bool false] 160)) (.cells #[.string ⟨#[]⟩, .int .i64 0, .slice none 0 0] 26) w1.heap.size (by simp)
  have h5 := strAt_block hs (hb.block g hg2)
  refine ⟨⟨h4.trans (by simpa using h3), h5, hcap, by omega⟩, by unfold FeedB; simpa using h2, (hb.block r R1.lt).trans R1, L1.trans (hb.mono (by omega)), h5, by simp⟩

set_option maxHeartbeats 4000000 in
set_option maxRecDepth 100000 in
theorem parse_none (s n z : ByteArray) (v : Nat) (hs : s.size ≤ 262144) (hc : Tt.code n.data.toList = true) (hz : Tt.code z.data.toList = true) (hn : n.size ≤ 1000) (hv : v ≤ 64) (hd : (Lib.decDigits v).length ≤ 18) (ha : Lib.atoi (Lib.decDigits v) = some (v : Int))
    (hu : Tt.unf s.data.toList = some ((lines0 n v).map (·.data.toList))) (w : World) (m : Int) (hm : w.cell? ⟨0, 0, none⟩ = some (.int .i64 m)) (h0 : 0 < w.heap.size) :
    Calls Tryz.prog 50 #[.string s, .string z] w fun e w' => e = .returned (.tuple #[.agg #[.string n, .int .i64 v, .slice none 0 0], .int .i64 0]) ∧ Below w.heap.size w w' := by
  have HZ := Lib.hid hz
  obtain ⟨x0, x1, x2, x3, x4, x5, HH⟩ := heads n v
  have HHH := Lib.hid HH
  have HV := Lib.hid (fun W => valid_none n v hc (by omega) (by omega) W)
  have HWR := Lib.hid (fun W => written_none n z v hn (by omega) (by omega) W)
  have HU := Lib.hid hu
  have HA := Lib.hid ha
  have L0 : Below w.heap.size w (w.alloc (.cells #[.string ⟨#[]⟩, .int .i64 0, .slice none 0 0] 26)) := (Below.refl _ w).alloc (Nat.le_refl _) _
  have R0 : FeedB w.heap.size ⟨#[]⟩ 0 (.slice none 0 0) (w.alloc (.cells #[.string ⟨#[]⟩, .int .i64 0, .slice none 0 0] 26)) := heap_alloc_new w _
  have hm0 := (L0.cell (p := ⟨0, 0, none⟩) h0).trans hm
  have hsi : ¬ ((262144 : Int) < (s.size : Int)) := by omega
  clear hz hc ha hu HH hm
  go_enter Tryz.func50, Tryz.ntmps50
  go_wp2_with fail
  refine (code_any _ _).mono ?_
  rintro e w1 ⟨rfl, hw⟩
  rw [hw]
  clear hw w1
  rw [HZ.out]
  go_wp2_with fail
  refine (unfold_any s (by omega) _ m hm0).mono ?_
  rintro e w1 ⟨hU, hb1⟩
  obtain ⟨g, cap, xs, hxs, rfl, hstr, hg1, hg2, hcap, _⟩ : ∃ (g cap : Nat) (xs : List ByteArray), xs = lines0 n v ∧ e = .returned (.tuple #[.slice (some ⟨g, 0, none⟩) xs.length cap, .bool true]) ∧ StrAt w1 (some ⟨g, 0, none⟩) xs ∧ w.heap.size + 1 ≤ g ∧ g < w1.heap.size ∧ xs.length ≤ cap ∧ True := by
    rcases hU with ⟨h1, _⟩ | ⟨g, cap, xs, h1, h2, h3, h4, h5, h6, _⟩
    · rw [HU.out] at h1; cases h1
    · rw [HU.out] at h1
      exact ⟨g, cap, xs, (map_data_inj (Option.some.inj h1)).symm, h2, h3, by simpa using h4, h5, h6, trivial⟩
  have HXS := Lib.hid hxs
  have hln : xs.length ≤ 6 := by rw [hxs]; exact Nat.le_refl 6
  have hno : ∀ x ∈ xs, Lib.hasPrefix x.data.toList [88, 45] = false := by rw [hxs]; exact HHH.out.no
  have HNO := Lib.hid hno
  have HSTR := Lib.hid hstr
  have L1 := L0.trans (hb1.mono (by simp))
  have R1 : FeedB w.heap.size ⟨#[]⟩ 0 (.slice none 0 0) w1 := (hb1.block _ (by simp)).trans R0
  have s1 : w.heap.size + 1 ≤ w1.heap.size := by have := hb1.size; simpa using this
  clear hxs hno hstr hm0 L0 R0 hb1 hU
  go_wp2_with fail
  refine (delete_none _ _ _ _ (by omega) HSTR.out HNO.out).mono ?_
  rintro e w2 ⟨rfl, q, hw⟩
  rw [hw]
  clear hw w2
  go_wp2_with fail
  obtain ⟨W, hW, P0, F0, R2, L2, T2, s2⟩ := parse_start w.heap.size g cap xs z w w1 q hg1 hg2 hcap HSTR.out L1 R1
  have HW := Lib.hid hW
  obtain ⟨p, hp⟩ : ∃ p, p = w1.heap.size := ⟨_, rfl⟩
  have HP := Lib.hid hp
  rw [← HP.out] at P0 F0 s2 s1 hg2
  have hrp : w.heap.size < p := by omega
  have hgl : g < W.heap.size := by omega
  have P0' : Par p g 0 cap [x0, x1, x2, x3, x4, x5] z false W := by
    have := P0
    rw [HXS.out, HHH.out.is] at this
    exact this
  clear hW hp P0 L1 R1 hcap
  rw [← HW.out, ← HP.out]
  refine (take_any p g _ _ _ _ z _ _ W P0' HHH.out.p0).mono ?_
  rintro e w3 ⟨rfl, ⟨o3, c3, P3⟩, K3⟩
  clear P0'
  go_wp2_with fail
  refine (take_any p g _ _ _ _ z _ _ w3 P3 HHH.out.p1).mono ?_
  rintro e w4 ⟨rfl, ⟨o4, c4, P4⟩, K4⟩
  clear P3
  go_wp2_with fail
  refine (take_any p g _ _ _ _ z _ _ w4 P4 HHH.out.p2).mono ?_
  rintro e w5 ⟨rfl, ⟨o5, c5, P5⟩, K5⟩
  clear P4
  go_wp2_with fail
  refine (take_any p g _ _ _ _ z _ _ w5 P5 HHH.out.p3).mono ?_
  rintro e w6 ⟨rfl, ⟨o6, c6, P6⟩, K6⟩
  have K : Only p W w6 := ((K3.trans K4).trans K5).trans K6
  have F6 := F0.block (K.2.2.2.2 (p + 1) (by omega))
  have R6 := R2.block (K.2.2.2.2 w.heap.size (by omega))
  have T6 := strAt_block T2 (K.2.2.2.2 g (by have := P6.ne; omega))
  have L6 := L2.trans (K.below (by omega))
  have s6 : W.heap.size ≤ w6.heap.size := Nat.le_of_eq K.2.2.2.1.symm
  clear P5 K3 K4 K5 K6 K F0 R2 T2 L2
  have hf := F6.fr 0
  have cf := F6.c0
  have hgp : g < p := hg2
  go_wp2_with fail
  obtain ⟨w7, hw7⟩ : ∃ w7, w7 = w6.setCell ⟨p + 1, 0, none⟩ (.string ⟨(Lib.trimPrefix x3.data.toList [78, 65, 77, 69, 58]).toArray⟩) := ⟨_, rfl⟩
  rw [← hw7]
  have h67 : ∀ k, k ≠ p + 1 → w7.heap[k]? = w6.heap[k]? := fun k hk => by rw [hw7]; exact Below.heap_setCell _ _ _ _ hk
  have F7 : FeedB (p + 1) n 0 (.slice none 0 0) w7 := by
    rw [hw7, ← HHH.out.t3]; exact F6.name
  have P7 := P6.other (h67 p (by omega)) (h67 g (by omega))
  have R7 := R6.block (h67 w.heap.size (by omega))
  have T7 := strAt_block T6 (h67 g (by omega))
  have L7 : Below w.heap.size w w7 := by rw [hw7]; exact L6.setCell (by simp; omega) _
  have s7 : W.heap.size ≤ w7.heap.size := by rw [hw7]; simpa [World.setCell] using s6
  have hp7 : Hid (p + 2 ≤ w7.heap.size) := F7.lt
  clear hf cf hw7 h67 F6 P6 R6 T6 L6 s6
  refine (take_any p g _ _ _ _ z _ _ w7 P7 HHH.out.p4).mono ?_
  rintro e w8 ⟨rfl, ⟨o8, c8, P8⟩, K8⟩
  clear P7
  go_wp2_with fail
  have h18 := HHH.out.t4
  unfold kRevision at h18
  rw [h18]
  refine (number_any p g _ _ _ z (str (Lib.decDigits v)) v (by rw [Lib.size_eq]; exact hd) HA.out w8 P8 (by rw [K8.2.2.2.1]; omega)).mono ?_
  rintro e w9 ⟨rfl, P9, K9⟩
  have h79 : ∀ k, k < w7.heap.size → k ≠ p → w9.heap[k]? = w7.heap[k]? := fun k hk hkp => (K9.block k (by rw [K8.2.2.2.1]; exact hk) hkp).trans (K8.2.2.2.2 k hkp)
  have F9 := F7.block (h79 (p + 1) F7.lt (by omega))
  have R9 := R7.block (h79 w.heap.size R7.lt (by omega))
  have T9 := strAt_block T7 (h79 g (by omega) (by omega))
  have s9 : W.heap.size ≤ w9.heap.size := by have := K9.size; rw [K8.2.2.2.1] at this; omega
  have L9 := L7.trans ((K8.below (by omega : w.heap.size ≤ p)).trans (K9.below (by omega) (by rw [K8.2.2.2.1]; omega)))
  have hf := F9.fr 1
  have cf := F9.c1
  have cb := P9.c2
  have hcb : (w9.setCell ⟨p + 1, 1, none⟩ (.int .i64 v)).cell? ⟨p, 2, none⟩ = some (.bool false) := by
    rw [World.cell?_of_block (w := w9) (Below.heap_setCell _ _ _ _ (by simp))]; exact cb
  clear P8 K8 K9 h79 F7 R7 T7 L7 s7 hp7 h18
  go_wp2_with fail
  obtain ⟨w10, hw10⟩ : ∃ w10, w10 = w9.setCell ⟨p + 1, 1, none⟩ (.int .i64 v) := ⟨_, rfl⟩
  rw [← hw10]
  have h67 : ∀ k, k ≠ p + 1 → w10.heap[k]? = w9.heap[k]? := fun k hk => by rw [hw10]; exact Below.heap_setCell _ _ _ _ hk
  have F10 : FeedB (p + 1) n v (.slice none 0 0) w10 := by rw [hw10]; exact F9.rev
  have P10 := P9.other (h67 p (by omega)) (h67 g (by omega))
  have R10 := R9.block (h67 w.heap.size (by omega))
  have T10 := strAt_block T9 (h67 g (by omega))
  have L10 : Below w.heap.size w w10 := by rw [hw10]; exact L9.setCell (by simp; omega) _
  have s10 : W.heap.size ≤ w10.heap.size := by rw [hw10]; simpa [World.setCell] using s9
  clear hf cf cb hcb hw10 h67 F9 P9 R9 T9 L9 s9
  have cb := P10.c2
  go_loopg [] 0 (fun _ wx => wx = w10)
  case atStart => exact rfl
  case round =>
    obtain rfl := hrel
    go_wp2_with fail
    refine (see_any p g _ _ _ _ z _ _ wr P10).mono ?_
    rintro e w11 ⟨rfl, hw⟩
    rw [hw, show Lib.hasPrefix x5.data.toList (⟨#[66, 69, 71, 73, 78, 58, 86, 69, 86, 69, 78, 84]⟩ : ByteArray).data.toList = false from HHH.out.p5]
    clear hw w11
    have cf0 := F10.c0
    have cf1 := F10.c1
    have cf2 := F10.c2
    go_wp2_with fail
    refine (HV.out _).mono ?_
    rintro e w11 ⟨rfl, hb11⟩
    have F11 := F10.block (hb11.block _ F10.lt)
    have R11 := R10.block (hb11.block _ R10.lt)
    have T11 := strAt_block T10 (hb11.block g (by omega))
    have s11 : W.heap.size ≤ w11.heap.size := by have := hb11.size; omega
    have L11 := L10.trans (hb11.mono (by omega))
    clear cf0 cf1 cf2 cb P10 F10 R10 T10 L10 hb11
    have cf0 := F11.c0
    have cf1 := F11.c1
    have cf2 := F11.c2
    go_wp2_with fail
    refine (HWR.out _).mono ?_
    rintro e w12 ⟨g2, cap2, rfl, T2, _, _, hb12⟩
    have F12 := F11.block (hb12.block _ F11.lt)
    have R12 := R11.block (hb12.block _ R11.lt)
    have T12 := strAt_block T11 (hb12.block g (by omega))
    have s12 : W.heap.size ≤ w12.heap.size := by have := hb12.size; omega
    have L12 := L11.trans (hb12.mono (by omega))
    have hTT := Lib.hid T2
    clear cf0 cf1 cf2 F11 R11 T11 L11 hb12 T2
    go_wp2_with fail
    refine (equal_any _ _ _ _ _ _ (lines0 n v) xs rfl rfl (by show 6 ≤ _; omega) (by omega) w12 hTT.out T12).mono ?_
    rintro e w13 ⟨rfl, q2, hw⟩
    rw [hw, show decide (lines0 n v = xs) = true from decide_eq_true HXS.out.symm]
    clear hw w13
    have F13 : FeedB (p + 1) n v (.slice none 0 0) (w12.drewN q2) := F12
    have R13 : FeedB w.heap.size ⟨#[]⟩ 0 (.slice none 0 0) (w12.drewN q2) := R12
    have L13 : Below w.heap.size w (w12.drewN q2) := L12.trans ⟨rfl, rfl, rfl, Nat.le_refl _, fun k hk => rfl⟩
    obtain ⟨w13, hw⟩ : ∃ w13, w13 = w12.drewN q2 := ⟨_, rfl⟩
    rw [← hw] at F13 R13 L13 ⊢
    clear hw F12 R12 T12 L12 hTT
    have cf0 := F13.c0
    have cf1 := F13.c1
    have cf2 := F13.c2
    have cr0 := R13.c0
    have cr1 := R13.c1
    have cr2 := R13.c2
    have fr0 := R13.fr 0
    have fr1 := R13.fr 1
    have fr2 := R13.fr 2
    go_wp2_with fail
    obtain ⟨w14, hw⟩ : ∃ w14, w14 = ((w13.setCell ⟨w.heap.size, 0, none⟩ (.string n)).setCell ⟨w.heap.size, 1, none⟩ (.int .i64 v)).setCell ⟨w.heap.size, 2, none⟩ (.slice none 0 0) := ⟨_, rfl⟩
    rw [← hw]
    have R14 : FeedB w.heap.size n v (.slice none 0 0) w14 := by rw [hw]; exact R13.name.rev.evs
    have L14 : Below w.heap.size w w14 := by
      rw [hw]; exact ((L13.setCell (Nat.le_refl _) _).setCell (Nat.le_refl _) _).setCell (Nat.le_refl _) _
    clear hw cf0 cf1 cf2 cr0 cr1 cr2 fr0 fr1 fr2
    have cr0 := R14.c0
    have cr1 := R14.c1
    have cr2 := R14.c2
    refine bodyPost_ret (v := .tuple #[.agg #[.string n, .int .i64 v, .slice none 0 0], .int .i64 0]) (by simp [results, Tryz.results50, go_sem, cr0, cr1, cr2]) rfl ?_
    exact ⟨rfl, L14⟩
end Go.Proofs.YtageielcdebjlaaGreatDoor
