/- timetableref40.Fold: its contract. -/
import Derived.Test.YtageielcdebjlaaGreatDoorUnfold
namespace Go.Proofs.YtageielcdebjlaaGreatDoor
open Go.RowKit

set_option maxHeartbeats 4000000 in
set_option maxRecDepth 100000 in
theorem refFold_any (s : ByteArray) (w : World) (hs : s.size ≤ 17592186044416) :
    Calls Tryz.prog 42 #[.string s] w fun e w' => e = .returned (.string ⟨(Tt.fold s.data.toList).toArray⟩) ∧ w' = w := by
  have HS := Lib.hid (Lib.size_eq s)
  by_cases hlen : s.size ≤ 75
  · have hst := Lib.hid (Tt.foldGo_end s.data.toList.length 75 s.data.toList (by rw [← HS.out]; omega))
    have hli : (s.size : Int) ≤ 75 := by omega
    go_enter Tryz.func42, Tryz.ntmps42
    go_wp2_with fail
    go_ret
    refine ⟨?_, rfl⟩
    have e : (⟨(Tt.fold s.data.toList).toArray⟩ : ByteArray) = s ++ ⟨#[13, 10]⟩ := by
      rw [← Lib.mk_data (s ++ ⟨#[13, 10]⟩), bs_app]
      show (⟨(Tt.foldGo s.data.toList.length 75 s.data.toList).toArray⟩ : ByteArray) = _
      rw [hst.out]
    rw [e]; rfl
  · have hst := Lib.hid (Tt.foldGo_step s.data.toList.length 75 s.data.toList (by omega) (Nat.le_refl _) (by rw [← HS.out]; omega))
    have hli : ¬ (s.size : Int) ≤ 75 := by omega
    have hl2 : (75 : Int) ≤ (s.size : Int) := by omega
    have hex1 : (s.extract 0 75).size = 75 := bs_extract_size s 0 75 (by omega)
    have hex2 : (s.extract 75 s.size).size = s.size - 75 := bs_extract_size s 75 s.size (Nat.le_refl _)
    have H1 := Lib.hid hex1
    have H2 := Lib.hid hex2
    clear hex1 hex2
    go_enter Tryz.func42, Tryz.ntmps42
    go_wp2_with fail
    go_loopw [3, 4] (fun tv rv wr => ∃ (T R : ByteArray), tv = .string T ∧ rv = .string R ∧ wr = w ∧ R.size ≤ s.size ∧ T.size + 4 * R.size ≤ 4 * s.size ∧ Hid (T.data.toList ++ [32] ++ Tt.foldGo R.data.toList.length 74 R.data.toList = Tt.fold s.data.toList)) (fun _ rv _ => match rv with | .string t => t.size | _ => 0)
    case atStart =>
      refine ⟨_, _, rfl, rfl, rfl, by rw [H2.out]; omega, by rw [bs_size, H1.out, H2.out]; show 75 + 2 + _ ≤ _; omega, ?_⟩
      show _ = Tt.foldGo s.data.toList.length 75 s.data.toList
      rw [hst.out, bs_app, Lib.extract_from_zero, Lib.extract_to_end]
      simp
    case round =>
      obtain ⟨T, R, rfl, rfl, rfl, hR, hT, HU⟩ := hrel
      have HR := Lib.hid (Lib.size_eq R)
      by_cases hlt : 74 < R.size
      · have hs2 := Lib.hid (Tt.foldGo_step R.data.toList.length 74 R.data.toList (by omega) (Nat.le_refl _) (by rw [← HR.out]; exact hlt))
        have hri : (74 : Int) < (R.size : Int) := by omega
        have hri2 : (74 : Int) ≤ (R.size : Int) := by omega
        have K1 := Lib.hid (bs_extract_size R 0 74 (by omega))
        have K2 := Lib.hid (bs_extract_size R 74 R.size (Nat.le_refl _))
        go_wp2_with fail
        go_roundw
        case rel =>
          refine ⟨_, _, rfl, rfl, by first | rfl | trivial, by rw [K2.out]; omega, by rw [bs_size, bs_size, bs_size, K1.out, K2.out]; show T.size + (1 + (74 - 0) + 2) + _ ≤ _; omega, ?_⟩
          show _ = _
          rw [← HU.out, hs2.out, bs_app, bs_app, bs_app, Lib.extract_from_zero, Lib.extract_to_end]
          simp
        case measure => simp [bs_extract_size R 74 R.size]; omega
      · have hs2 := Lib.hid (Tt.foldGo_end R.data.toList.length 74 R.data.toList (by rw [← HR.out]; exact hlt))
        have hri : ¬ (74 : Int) < (R.size : Int) := by omega
        go_wp2_with fail
        go_ret
        refine ⟨?_, rfl⟩
        have e : (⟨(Tt.fold s.data.toList).toArray⟩ : ByteArray) = T ++ ⟨#[32]⟩ ++ R ++ ⟨#[13, 10]⟩ := by
          rw [← Lib.mk_data (T ++ ⟨#[32]⟩ ++ R ++ ⟨#[13, 10]⟩), bs_app, bs_app, bs_app, ← HU.out, hs2.out]
          simp
        rw [e]; rfl
end Go.Proofs.YtageielcdebjlaaGreatDoor
