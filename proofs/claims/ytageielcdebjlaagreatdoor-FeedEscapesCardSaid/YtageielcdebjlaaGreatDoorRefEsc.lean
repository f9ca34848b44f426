/- timetableref40.Escape: its contract. -/
import Derived.Test.YtageielcdebjlaaGreatDoorUnfold
namespace Go.Proofs.YtageielcdebjlaaGreatDoor
open Go.RowKit

theorem cells_any (w : World) (vs : List Value) (e : TypeId) : ∀ (j : Nat) (u : Value), vs[j]? = some u → (w.alloc (.cells vs.toArray e)).cell? ((⟨w.heap.size, 0, none⟩ : Addr).add j) = some u := by
  intro j u hj
  have e1 : (⟨w.heap.size, 0, none⟩ : Addr).add j = ⟨w.heap.size, j, none⟩ := by
    unfold Addr.add
    split
    · simp
    · simp
  rw [e1, World.cell?_alloc_at _ _ _ _ rfl]
  simpa using hj

set_option maxHeartbeats 4000000 in
set_option maxRecDepth 100000 in
theorem refEscape_any (s : ByteArray) (w : World) (hs : s.size ≤ 70368744177664) :
    Calls Tryz.prog 40 #[.string s] w fun e w' => e = .returned (.string ⟨(Tt.esc s.data.toList).toArray⟩) ∧ Below w.heap.size w w' := by
  obtain ⟨i0, hi, hz0, hz1, hz2⟩ := info_parts infoByte
  have HL := Lib.hid (Lib.size_eq s)
  go_enter Tryz.func40, Tryz.ntmps40
  go_wp2_with fail
  go_loopw [3, 4] (fun v i wr => ∃ (k : Nat) (acc : List UInt8), k ≤ s.size ∧ i = .int .i64 k ∧ wr.ownsRow w.heap.size 5 1 v acc.length (Lib.byteCells acc) ∧ Below w.heap.size w wr ∧ acc.length ≤ 2 * k ∧ Hid (acc = Tt.esc (s.data.toList.take k))) (fun _ i _ => s.size - (intOf i).toNat)
  case atStart => exact ⟨0, [], Nat.zero_le _, rfl, World.ownsRow_nil _ _ _ _, Below.refl _ _, Nat.zero_le _, rfl⟩
  case round =>
    obtain ⟨k, acc, hk, rfl, hown, hbe, hal, HA⟩ := hrel
    have hsr := hbe.size
    by_cases hlt : k < s.size
    · obtain ⟨c, hx⟩ : ∃ c : UInt8, s[k]'hlt = c := ⟨_, rfl⟩
      have hc : s.data.toList[k]? = some c := by have := Lib.data_getElem? s k hlt; rw [hx] at this; exact this
      have HST := Lib.hid (esc_snoc s.data.toList k c hc)
      have hki : (k : Int) < (s.size : Int) := by omega
      clear hc
      by_cases h1 : c = 92 ∨ c = 59 ∨ c = 44
      · have HB := Lib.hid (show Tt.escB c = [92, c] by unfold Tt.escB; rw [if_pos h1])
        have htests : (((c.toNat : Int) == 92) = true) ∨ (((c.toNat : Int) == 92) = false ∧ ((c.toNat : Int) == 59) = true) ∨ (((c.toNat : Int) == 92) = false ∧ ((c.toNat : Int) == 59) = false ∧ ((c.toNat : Int) == 44) = true) := by
          by_cases e : c = 92
          · exact .inl (byte_eq c 92 92 rfl e)
          · by_cases e2 : c = 59
            · exact .inr (.inl ⟨byte_ne c 92 92 rfl e, byte_eq c 59 59 rfl e2⟩)
            · exact .inr (.inr ⟨byte_ne c 92 92 rfl e, byte_ne c 59 59 rfl e2, byte_eq c 44 44 rfl ((h1.resolve_left e).resolve_left e2)⟩)
        clear h1
        rcases htests with t1 | ⟨t1, t2⟩ | ⟨t1, t2, t3⟩
        all_goals
          go_wp2_with (at_builtin; refine wpList_append_own _ rfl (.tmp 24) (.tmp 28) 76 rfl w.heap.size 5 i0 (.int .u8 0) 1 1 Tryz.underlying76 hi hz0 hz1 hz2 rfl (by decide) _ _ _ rfl (hown.alloc _) ⟨wr.heap.size, 0, none⟩ 2 2 [.int .u8 92, .int .u8 c.toNat] rfl rfl (cells_any _ [.int .u8 92, .int .u8 c.toNat] 5) (by intro u hu; simp at hu; rcases hu with rfl | rfl <;> rfl) (by unfold maxLen; omega) (by omega) (by simp; omega) ?_)
          intro v' w3 hown3 hgrow _
          have hbe3 : Below w.heap.size w w3 := (hbe.alloc (by omega) _).grown hgrow (by simp; omega) (fun k hk => (hown.lt k hk).1)
          clear hgrow hown hbe
          go_wp2_with fail
          go_roundw
          case rel =>
            refine ⟨k + 1, acc ++ [92, c], by omega, by go_num, by simpa [Lib.byteCells] using hown3, hbe3, by simp; omega, ?_⟩
            show _ = _
            rw [HST.out, HB.out, HA.out]
          case measure => simp [intOf]; omega
      · have t1 := byte_ne c 92 92 rfl (fun e => h1 (.inl e))
        have t2 := byte_ne c 59 59 rfl (fun e => h1 (.inr (.inl e)))
        have t3 := byte_ne c 44 44 rfl (fun e => h1 (.inr (.inr e)))
        by_cases h2 : c = 10
        · have HB := Lib.hid (show Tt.escB c = [92, 110] by unfold Tt.escB; rw [if_neg h1, if_pos h2])
          have t4 := byte_eq c 10 10 rfl h2
          clear h1 h2
          go_wp2_with (at_builtin; refine wpList_append_own _ rfl (.tmp 32) (.tmp 33) 76 rfl w.heap.size 5 i0 (.int .u8 0) 1 1 Tryz.underlying76 hi hz0 hz1 hz2 rfl (by decide) _ _ _ rfl (hown.alloc _) ⟨wr.heap.size, 0, none⟩ 2 2 [.int .u8 92, .int .u8 110] rfl rfl (cells_any _ [.int .u8 92, .int .u8 110] 5) (by intro u hu; simp at hu; rcases hu with rfl | rfl <;> rfl) (by unfold maxLen; omega) (by omega) (by simp; omega) ?_)
          intro v' w3 hown3 hgrow _
          have hbe3 : Below w.heap.size w w3 := (hbe.alloc (by omega) _).grown hgrow (by simp; omega) (fun k hk => (hown.lt k hk).1)
          clear hgrow hown hbe
          go_wp2_with fail
          go_roundw
          case rel =>
            refine ⟨k + 1, acc ++ [92, 110], by omega, by go_num, by simpa [Lib.byteCells] using hown3, hbe3, by simp; omega, ?_⟩
            show _ = _
            rw [HST.out, HB.out, HA.out]
          case measure => simp [intOf]; omega
        · have HB := Lib.hid (show Tt.escB c = [c] by unfold Tt.escB; rw [if_neg h1, if_neg h2])
          have t4 := byte_ne c 10 10 rfl h2
          clear h1 h2
          go_wp2_with (at_builtin; refine wpList_append_own _ rfl (.tmp 14) (.tmp 18) 76 rfl w.heap.size 5 i0 (.int .u8 0) 1 1 Tryz.underlying76 hi hz0 hz1 hz2 rfl (by decide) _ _ _ rfl (hown.alloc _) ⟨wr.heap.size, 0, none⟩ 1 1 [.int .u8 c.toNat] rfl rfl (cells_any _ [.int .u8 c.toNat] 5) (by intro u hu; simp at hu; subst hu; rfl) (by unfold maxLen; omega) (by omega) (by simp; omega) ?_)
          intro v' w3 hown3 hgrow _
          have hbe3 : Below w.heap.size w w3 := (hbe.alloc (by omega) _).grown hgrow (by simp; omega) (fun k hk => (hown.lt k hk).1)
          clear hgrow hown hbe
          go_wp2_with fail
          go_roundw
          case rel =>
            refine ⟨k + 1, acc ++ [c], by omega, by go_num, by simpa [Lib.byteCells] using hown3, hbe3, by simp; omega, ?_⟩
            show _ = _
            rw [HST.out, HB.out, HA.out]
          case measure => simp [intOf]; omega
    · have hcv := string_of_row hown
      go_wp2_with fail
      go_ret
      refine ⟨ret_str ?_, hbe⟩
      rw [HA.out, List.take_of_length_le (by rw [← HL.out]; omega)]
end Go.Proofs.YtageielcdebjlaaGreatDoor
