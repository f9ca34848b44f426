/- feed.Format of a feed without events. -/
import Derived.Test.YtageielcdebjlaaGreatDoorWritten
namespace Go.Proofs.YtageielcdebjlaaGreatDoor
open Go.RowKit

theorem alloc3 (n : ByteArray) (v : Int) (ev : Value) (w : World) : FeedAt w.heap.size n v ev (w.alloc (.cells #[.string n, .int .i64 v, ev] 26)) := by
  have h1 := heap_alloc_new w (.cells #[.string n, .int .i64 v, ev] 26)
  refine ⟨?_, ?_, ?_⟩
  all_goals (rw [Lib.cell_of_heap h1]; rfl)
theorem FeedAt.below {a B : Nat} {n : ByteArray} {v : Int} {ev : Value} {w w' : World} (h : FeedAt a n v ev w) (hw : Below B w w') (h1 : a < B) : FeedAt a n v ev w' :=
  ⟨(hw.cell (p := ⟨a, 0, none⟩) h1).trans h.c0, (hw.cell (p := ⟨a, 1, none⟩) h1).trans h.c1, (hw.cell (p := ⟨a, 2, none⟩) h1).trans h.c2⟩

theorem addr_add (g k : Nat) : (⟨g, 0, none⟩ : Addr).add k = ⟨g, k, none⟩ := by
  unfold Addr.add
  split
  · simp
  · simp

theorem format_step (ls : List ByteArray) (k : Nat) (x : ByteArray) (h : ls[k]? = some x) : (ls.take (k + 1)).flatMap (fun l => Tt.fold l.data.toList) = (ls.take k).flatMap (fun l => Tt.fold l.data.toList) ++ Tt.fold x.data.toList := by
  obtain ⟨h1, h2⟩ := List.getElem?_eq_some_iff.1 h
  rw [List.take_succ_eq_append_getElem h1, h2]; simp
theorem take_le (ls : List ByteArray) (k : Nat) : ((ls.take k).flatMap (fun l => Tt.fold l.data.toList)).length ≤ (ls.flatMap (fun l => Tt.fold l.data.toList)).length := by
  conv => rhs; rw [← List.take_append_drop k ls]
  rw [List.flatMap_append, List.length_append]; omega

set_option maxHeartbeats 4000000 in
set_option maxRecDepth 100000 in
theorem format_none (n z : ByteArray) (v : Nat) (hc : Tt.code n.data.toList = true) (hz : Tt.code z.data.toList = true) (hn : n.size ≤ 1000) (h1 : v ≤ 64) (hd : (Lib.decDigits v).length ≤ 1000)
    (hsz : ∀ x ∈ lines0 n v, x.size ≤ 100000) (hS : ((lines0 n v).flatMap (fun l => Tt.fold l.data.toList)).length ≤ 262144) (w : World) :
    Calls Tryz.prog 48 #[.agg #[.string n, .int .i64 v, .slice none 0 0], .string z] w fun e w' => e = .returned (.tuple #[.string (str ((lines0 n v).flatMap (fun l => Tt.fold l.data.toList))), .int .i64 0]) ∧ Below w.heap.size w w' := by
  have HV := Lib.hid (fun W => valid_none n v hc (by omega) (by omega) W)
  have HZ := Lib.hid hz
  have HWR := Lib.hid (fun W => written_none n z v hn (by omega) hd W)
  have F0 := alloc3 n v (.slice none 0 0) w
  have L0 : Below w.heap.size w (w.alloc (.cells #[.string n, .int .i64 v, .slice none 0 0] 26)) := (Below.refl _ w).alloc (Nat.le_refl _) _
  have c0 := F0.c0
  have c1 := F0.c1
  have c2 := F0.c2
  obtain ⟨ls, hls⟩ : ∃ ls, ls = lines0 n v := ⟨_, rfl⟩
  have h6 : ls.length = 6 := by rw [hls]; rfl
  rw [← hls] at hsz hS ⊢
  have HWR2 := HWR.out
  rw [← hls] at HWR2
  have HWR3 := Lib.hid HWR2
  have H6 := Lib.hid h6
  have hl6 : ls.length ≤ 6 := by omega
  have HSZ := Lib.hid hsz
  clear hc hz hd hls HWR HWR2 h6 hsz
  go_enter Tryz.func48, Tryz.ntmps48
  go_wp2_with fail
  refine (HV.out _).mono ?_
  rintro e w1 ⟨rfl, hb1⟩
  have F1 := F0.below hb1 (by simp)
  have L1 := L0.trans (hb1.mono (by simp))
  have s1 : w.heap.size + 1 ≤ w1.heap.size := by have := hb1.size; simpa using this
  clear c0 c1 c2 F0 L0 hb1
  go_wp2_with fail
  refine (code_any _ _).mono ?_
  rintro e w1' ⟨rfl, hw⟩
  rw [hw]
  clear hw w1'
  rw [HZ.out]
  have hf := Bld.fresh w1 (w1.heap.size + 1) (by omega)
  have F2 := F1.below ((Below.refl _ w1).alloc (Nat.le_refl _) (.cells #[.pointer none, .slice none 0 0] 142)) (by omega)
  have L2 : Below w.heap.size w (w1.alloc (.cells #[.pointer none, .slice none 0 0] 142)) := L1.trans ((Below.refl _ w1).alloc (by omega) _)
  have c0 := F2.c0
  have c1 := F2.c1
  have c2 := F2.c2
  go_wp2_with fail
  refine (HWR3.out _).mono ?_
  rintro e w2 ⟨g, cap, rfl, hstr, hg1, hg2, hb2⟩
  have hsz2 := hb2.size
  have hB : Bld w1.heap.size w2.heap.size [] w2 := by
    obtain ⟨p, v, hp, hb, _⟩ := (hf.kept hb2).ex
    refine ⟨by simp at hsz2; omega, p, .slice none 0 0, hp, ?_, World.ownsRow_nil _ _ _ _⟩
    rw [hb2.block _ (by simp), heap_alloc_new]
    have := hb
    rw [hb2.block _ (by simp), heap_alloc_new] at this
    simp at this
    rw [← this.1]
  have L3 := L2.trans (hb2.mono (by simp; omega))
  have s2 : w1.heap.size + 1 ≤ w2.heap.size := by simpa using hsz2
  have hgb : w1.heap.size + 1 ≤ g := by simpa using hg1
  have HSTR := Lib.hid hstr
  clear c0 c1 c2 F1 F2 L1 L2 hf hb2 hsz2 hg1 hstr
  go_wp2_with fail
  go_loopw [22] (fun i wr => ∃ (k : Nat) (acc : List UInt8), k ≤ ls.length ∧ i = .int .i64 k ∧ Bld w1.heap.size w2.heap.size acc wr ∧ But w1.heap.size w2.heap.size w2 wr ∧ acc.length ≤ 262144 ∧ Hid (acc = (ls.take k).flatMap (fun l => Tt.fold l.data.toList))) (fun i _ => ls.length - (intOf i).toNat)
  case atStart => exact ⟨0, [], Nat.zero_le _, rfl, hB, But.refl _ _ _, by simp, rfl⟩
  case round =>
    obtain ⟨k, acc, hk, rfl, hBl, hbut, hacc, HA⟩ := hrel
    have hsr := hbut.size
    by_cases hlt : k < ls.length
    · obtain ⟨x, hx⟩ : ∃ x, ls[k]? = some x := ⟨_, List.getElem?_eq_getElem hlt⟩
      obtain ⟨a, ha, hcx⟩ := HSTR.out k x hx
      have hca : wr.cell? ⟨g, k, none⟩ = some (.string x) := by
        rw [hbut.cell (p := ⟨g, k, none⟩) hg2 (by simp; omega)]
        cases ha
        rw [addr_add] at hcx; exact hcx
      have hxs := HSZ.out x (List.mem_of_getElem? hx)
      have hlen := take_le ls (k + 1)
      have hst := format_step ls k x hx
      rw [hst, ← HA.out, List.length_append] at hlen
      have hlen2 : acc.length + (Tt.fold x.data.toList).length ≤ 262144 := Nat.le_trans hlen hS
      have HST := Lib.hid hst
      clear hx ha hcx hlen hst
      have hki : (k : Int) < (ls.length : Int) := by omega
      go_wp2_with fail
      refine (fold_any _ _ (by omega)).mono ?_
      rintro e w3 ⟨rfl, hb3⟩
      have s3 := hb3.size
      have hB3 := hBl.kept hb3
      go_wp2_with fail
      refine (writeString_any _ _ _ _ _ hB3 (by rw [Lib.size_eq]; simp only []; omega) (by omega)).mono ?_
      rintro e w4 ⟨rfl, hB4, hbut4⟩
      go_wp2_with fail
      go_roundw
      case rel =>
        refine ⟨k + 1, _, by omega, by go_num, hB4, hbut.trans ((But.of_below (hb3.mono (by omega))).trans hbut4), by rw [List.length_append]; exact hlen2, ?_⟩
        show _ = _
        rw [HST.out, HA.out]
      case measure => simp [intOf]; omega
    · have hk2 : k = ls.length := by omega
      have HK := Lib.hid hk2
      go_wp2_with fail
      refine (len_any _ _ _ _ hBl).mono ?_
      rintro e w5 ⟨rfl, hw⟩
      rw [hw]
      clear hw w5
      have hai : ¬ ((262144 : Int) < (acc.length : Int)) := by omega
      go_wp2_with fail
      refine (string_any _ _ _ _ hBl).mono ?_
      rintro e w6 ⟨rfl, hb6⟩
      go_wp2_with fail
      go_ret2
      refine ⟨?_, (L3.trans (hbut.below (by omega) (by omega))).trans (hb6.mono (by omega))⟩
      rw [HA.out, HK.out, List.take_length]
      rfl
end Go.Proofs.YtageielcdebjlaaGreatDoor
