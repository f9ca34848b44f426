/- feed.Fold: its contract. -/
import Derived.Test.YtageielcdebjlaaGreatDoorUnesc
import Derived.Outline
namespace Go.Proofs.YtageielcdebjlaaGreatDoor
open Go.RowKit

theorem bs_app (a b : ByteArray) : (a ++ b).data.toList = a.data.toList ++ b.data.toList := by simp
theorem bs_size (a b : ByteArray) : (a ++ b).size = a.size + b.size := by simp
theorem bs_extract_size (t : ByteArray) (a b : Nat) (h : b ≤ t.size) : (t.extract a b).size = b - a := by simp; omega

set_option maxHeartbeats 4000000 in
set_option maxRecDepth 100000 in
theorem fold_any (s : ByteArray) (w : World) (hs : s.size ≤ 17592186044416) :
    Calls Tryz.prog 41 #[.string s] w fun e w' => e = .returned (.string ⟨(Tt.fold s.data.toList).toArray⟩) ∧ Below w.heap.size w w' := by
  have hbl : Bld w.heap.size (w.heap.size + 1) [] (w.alloc (.cells #[.pointer none, .slice none 0 0] 142)) := Bld.fresh w (w.heap.size + 1) (by omega)
  have hW : Below w.heap.size w (w.alloc (.cells #[.pointer none, .slice none 0 0] 142)) := (Below.refl _ w).alloc (Nat.le_refl _) _
  have hS : w.heap.size + 1 ≤ (w.alloc (.cells #[.pointer none, .slice none 0 0] 142)).heap.size := by simp
  go_enter Tryz.func41, Tryz.ntmps41
  go_wp2_with fail
  go_loopw [0, 4] (fun l i wr => ∃ (t : ByteArray) (n : Nat) (acc : List UInt8), l = .string t ∧ i = .int .i64 n ∧ 74 ≤ n ∧ n ≤ 75 ∧ t.size ≤ s.size ∧ acc.length + 4 * t.size ≤ 4 * s.size ∧ Bld w.heap.size (w.heap.size + 1) acc wr ∧ Below w.heap.size w wr ∧ w.heap.size + 1 ≤ wr.heap.size ∧ Hid (acc ++ Tt.foldGo t.data.toList.length n t.data.toList = Tt.fold s.data.toList)) (fun l _ _ => match l with | .string t => t.size | _ => 0)
  case atStart => exact ⟨s, 75, [], rfl, rfl, by omega, by omega, by omega, by simp, hbl, hW, hS, by show _ = _; simp [Tt.fold]⟩
  case round =>
    obtain ⟨t, n, acc, rfl, rfl, hn1, hn2, hts, hac, hB, hbw, hsz, HU⟩ := hrel
    clear hbl hW hS
    have HT := Lib.hid (Lib.size_eq t)
    by_cases hlt : n < t.size
    · have hst := Lib.hid (Tt.foldGo_step t.data.toList.length n t.data.toList (by omega) (Nat.le_refl _) (by rw [← HT.out]; exact hlt))
      go_wp2_with fail
      refine (writeString_any _ _ _ _ _ hB (by rw [bs_size, bs_size, bs_extract_size t 0 n (by omega)]; show acc.length + (n - 0 + 2 + 1) ≤ _; omega) (by omega)).mono ?_
      rintro e w1 ⟨rfl, hB1, hbut1⟩
      have hsz3 := hbut1.size
      go_wp2_with fail
      go_roundw
      case rel =>
        refine ⟨t.extract n t.size, 74, _, rfl, rfl, by omega, by omega, by rw [bs_extract_size t n t.size (by omega)]; omega, ?_, hB1, hbw.trans (hbut1.below (Nat.le_refl _) (by omega)), by omega, ?_⟩
        · rw [bs_extract_size t n t.size (by omega), bs_app, bs_app, List.length_append, List.length_append, List.length_append, ← Lib.size_eq (t.extract 0 n), bs_extract_size t 0 n (by omega), show (⟨#[13, 10]⟩ : ByteArray).data.toList.length = 2 from rfl, show (⟨#[32]⟩ : ByteArray).data.toList.length = 1 from rfl]
          omega
        · show _ = _
          rw [← HU.out, hst.out, Lib.extract_to_end, bs_app, bs_app, Lib.extract_from_zero]
          simp
      case measure => simp [bs_extract_size t n t.size]; omega
    · have hst := Lib.hid (Tt.foldGo_end t.data.toList.length n t.data.toList (by rw [← HT.out]; exact hlt))
      go_wp2_with fail
      refine (writeString_any _ _ _ _ _ hB (by rw [bs_size]; show acc.length + (t.size + 2) ≤ _; omega) (by omega)).mono ?_
      rintro e w1 ⟨rfl, hB1, hbut1⟩
      have hsz3 := hbut1.size
      go_wp2_with fail
      refine (string_any _ _ _ _ hB1).mono ?_
      rintro e w2 ⟨rfl, hb1⟩
      go_wp2_with fail
      go_ret
      refine ⟨ret_str ?_, (hbw.trans (hbut1.below (Nat.le_refl _) (by omega))).trans hb1⟩
      rw [← HU.out, hst.out]

end Go.Proofs.YtageielcdebjlaaGreatDoor
