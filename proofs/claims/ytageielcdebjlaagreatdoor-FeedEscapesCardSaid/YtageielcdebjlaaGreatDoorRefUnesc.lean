/- timetableref40.Unescape: its contract. -/
import Derived.Test.YtageielcdebjlaaGreatDoorRefEsc
namespace Go.Proofs.YtageielcdebjlaaGreatDoor
open Go.RowKit

set_option maxHeartbeats 4000000 in
set_option maxRecDepth 100000 in
theorem refUnescape_any (s : ByteArray) (w : World) (hs : s.size ≤ 70368744177664) :
    Calls Tryz.prog 36 #[.string s] w fun e w' => e = .returned (.tuple #[.string (unescS s.data.toList), .bool (unescB s.data.toList)]) ∧ Below w.heap.size w w' := by
  have HL := Lib.hid (Lib.size_eq s)
  obtain ⟨i0, hi, hz0, hz1, hz2⟩ := info_parts infoByte
  go_enter Tryz.func36, Tryz.ntmps36
  go_wp2_with fail
  go_loopw [4, 5] (fun v i wr => ∃ (k : Nat) (acc : List UInt8), k ≤ s.size ∧ i = .int .i64 k ∧ acc.length ≤ k ∧ wr.ownsRow w.heap.size 5 1 v acc.length (Lib.byteCells acc) ∧ Below w.heap.size w wr ∧ Hid ((Tt.unesc (s.data.toList.drop k)).map (acc ++ ·) = Tt.unesc s.data.toList)) (fun _ i _ => s.size - (intOf i).toNat)
  case atStart => exact ⟨0, [], Nat.zero_le _, rfl, by simp, World.ownsRow_nil _ _ _ _, Below.refl _ _, by show _ = _; simp⟩
  case round =>
    obtain ⟨k, acc, hk, rfl, hac, hown, hbw, HU⟩ := hrel
    have hsz := hbw.size
    by_cases hlt : k < s.size
    · obtain ⟨c, hx⟩ : ∃ c : UInt8, s[k]'hlt = c := ⟨_, rfl⟩
      have hcl : s.data.toList[k]? = some c := by rw [← hx]; exact Lib.data_getElem? s k hlt
      have HD := Lib.hid (drop_cons _ _ _ hcl)
      clear hcl
      by_cases h1 : c = 59 ∨ c = 44 ∨ c = 10
      · have HF := Lib.hid (unesc_fails HU.out (by rw [HD.out, Tt.unesc_bad c _ h1]))
        have h3 : ((c.toNat : Int) == 59) = true ∨ (((c.toNat : Int) == 59) = false ∧ ((c.toNat : Int) == 44) = true) ∨ (((c.toNat : Int) == 59) = false ∧ ((c.toNat : Int) == 44) = false ∧ ((c.toNat : Int) == 10) = true) := by
          by_cases a1 : c = 59
          · exact .inl (byte_eq c 59 59 rfl a1)
          · by_cases a2 : c = 44
            · exact .inr (.inl ⟨byte_ne c 59 59 rfl a1, byte_eq c 44 44 rfl a2⟩)
            · exact .inr (.inr ⟨byte_ne c 59 59 rfl a1, byte_ne c 44 44 rfl a2, byte_eq c 10 10 rfl (by rcases h1 with h | h | h <;> first | exact absurd h a1 | exact absurd h a2 | exact h)⟩)
        clear h1
        rcases h3 with h3 | ⟨h3, h4⟩ | ⟨h3, h4, h5⟩
        all_goals
          go_wp2_with fail
          go_ret2
          exact ⟨ret_two HF.out.1.symm HF.out.2.symm, hbw⟩
      · have f59 := byte_ne c 59 59 rfl (fun h => h1 (.inl h))
        have f44 := byte_ne c 44 44 rfl (fun h => h1 (.inr (.inl h)))
        have f10 := byte_ne c 10 10 rfl (fun h => h1 (.inr (.inr h)))
        by_cases h2 : c = 92
        · have f92 := byte_eq c 92 92 rfl h2
          by_cases hend : k + 1 = s.size
          · have HF := Lib.hid (unesc_fails HU.out (by rw [HD.out, List.drop_eq_nil_of_le (by rw [← HL.out]; omega), h2, Tt.unesc_end]))
            have hq : (((k : Int) + 1) == (s.size : Int)) = true := beq_iff_eq.2 (by omega)
            clear h1 h2 hend
            go_wp2_with fail
            go_ret2
            exact ⟨ret_two HF.out.1.symm HF.out.2.symm, hbw⟩
          · have hq : (((k : Int) + 1) == (s.size : Int)) = false := beq_eq_false_iff_ne.2 (by omega)
            have hlt2 : k + 1 < s.size := by omega
            obtain ⟨d, hy⟩ : ∃ d : UInt8, s[k + 1]'hlt2 = d := ⟨_, rfl⟩
            have hdl : s.data.toList[k + 1]? = some d := by rw [← hy]; exact Lib.data_getElem? s (k + 1) hlt2
            have HD2 := Lib.hid (drop_cons _ _ _ hdl)
            have H92 := Lib.hid h2
            clear hdl h1 h2 hend
            by_cases h5 : d = 92 ∨ d = 59 ∨ d = 44
            · have HF := Lib.hid (unesc_step (x := [d]) (j := k + 1 + 1) HU.out (by rw [HD.out, HD2.out, H92.out, Tt.unesc_same d _ h5]; rfl))
              have h3 : ((d.toNat : Int) == 92) = true ∨ (((d.toNat : Int) == 92) = false ∧ ((d.toNat : Int) == 59) = true) ∨ (((d.toNat : Int) == 92) = false ∧ ((d.toNat : Int) == 59) = false ∧ ((d.toNat : Int) == 44) = true) := by
                by_cases a1 : d = 92
                · exact .inl (byte_eq d 92 92 rfl a1)
                · by_cases a2 : d = 59
                  · exact .inr (.inl ⟨byte_ne d 92 92 rfl a1, byte_eq d 59 59 rfl a2⟩)
                  · exact .inr (.inr ⟨byte_ne d 92 92 rfl a1, byte_ne d 59 59 rfl a2, byte_eq d 44 44 rfl (by rcases h5 with h | h | h <;> first | exact absurd h a1 | exact absurd h a2 | exact h)⟩)
              clear h5
              rcases h3 with h3 | ⟨h3, h4⟩ | ⟨h3, h4, h5⟩
              all_goals
                go_wp2_with (at_builtin; refine wpList_append_own _ rfl (.tmp 40) (.tmp 44) 76 rfl w.heap.size 5 i0 (.int .u8 0) 1 1 Tryz.underlying76 hi hz0 hz1 hz2 rfl (by decide) _ _ _ rfl (hown.alloc _) ⟨wr.heap.size, 0, none⟩ 1 1 [.int .u8 d.toNat] rfl rfl (cells_any _ [.int .u8 d.toNat] 5) (by intro u hu; simp at hu; subst hu; rfl) (by unfold maxLen; omega) (by omega) (by simp; omega) ?_)
                intro v' w3 hown3 hgrow _
                have hbe3 : Below w.heap.size w w3 := (hbw.alloc (by omega) _).grown hgrow (by simp; omega) (fun k hk => (hown.lt k hk).1)
                clear hgrow hown hbw
                go_wp2_with fail
                go_roundw
                case rel => exact ⟨k + 1 + 1, acc ++ [d], by omega, by go_num, by simp; omega, by simpa [Lib.byteCells] using hown3, hbe3, HF⟩
                case measure => simp [intOf]; omega
            · by_cases h6 : d = 110 ∨ d = 78
              · have HF := Lib.hid (unesc_step (x := [10]) (j := k + 1 + 1) HU.out (by rw [HD.out, HD2.out, H92.out, Tt.unesc_feed d _ h6]; rfl))
                have g92 := byte_ne d 92 92 rfl (fun h => h5 (.inl h))
                have g59 := byte_ne d 59 59 rfl (fun h => h5 (.inr (.inl h)))
                have g44 := byte_ne d 44 44 rfl (fun h => h5 (.inr (.inr h)))
                have h3 : ((d.toNat : Int) == 110) = true ∨ (((d.toNat : Int) == 110) = false ∧ ((d.toNat : Int) == 78) = true) := by
                  by_cases a1 : d = 110
                  · exact .inl (byte_eq d 110 110 rfl a1)
                  · exact .inr ⟨byte_ne d 110 110 rfl a1, byte_eq d 78 78 rfl (by rcases h6 with h | h <;> first | exact absurd h a1 | exact h)⟩
                clear h5 h6
                rcases h3 with h3 | ⟨h3, h4⟩
                all_goals
                  go_wp2_with (at_builtin; refine wpList_append_own _ rfl (.tmp 49) (.tmp 50) 76 rfl w.heap.size 5 i0 (.int .u8 0) 1 1 Tryz.underlying76 hi hz0 hz1 hz2 rfl (by decide) _ _ _ rfl (hown.alloc _) ⟨wr.heap.size, 0, none⟩ 1 1 [.int .u8 10] rfl rfl (cells_any _ [.int .u8 10] 5) (by intro u hu; simp at hu; subst hu; rfl) (by unfold maxLen; omega) (by omega) (by simp; omega) ?_)
                  intro v' w3 hown3 hgrow _
                  have hbe3 : Below w.heap.size w w3 := (hbw.alloc (by omega) _).grown hgrow (by simp; omega) (fun k hk => (hown.lt k hk).1)
                  clear hgrow hown hbw
                  go_wp2_with fail
                  go_roundw
                  case rel => exact ⟨k + 1 + 1, acc ++ [10], by omega, by go_num, by simp; omega, by simpa [Lib.byteCells] using hown3, hbe3, HF⟩
                  case measure => simp [intOf]; omega
              · have HF := Lib.hid (unesc_fails HU.out (by rw [HD.out, HD2.out, H92.out, Tt.unesc_wrong d _ h5 h6]))
                have g92 := byte_ne d 92 92 rfl (fun h => h5 (.inl h))
                have g59 := byte_ne d 59 59 rfl (fun h => h5 (.inr (.inl h)))
                have g44 := byte_ne d 44 44 rfl (fun h => h5 (.inr (.inr h)))
                have g110 := byte_ne d 110 110 rfl (fun h => h6 (.inl h))
                have g78 := byte_ne d 78 78 rfl (fun h => h6 (.inr h))
                clear h5 h6
                go_wp2_with fail
                go_ret2
                exact ⟨ret_two HF.out.1.symm HF.out.2.symm, hbw⟩
        · have f92 := byte_ne c 92 92 rfl h2
          have HF := Lib.hid (unesc_step (x := [c]) (j := k + 1) HU.out (by rw [HD.out, Tt.unesc_plain c _ h1 h2]; rfl))
          clear h1 h2
          go_wp2_with (at_builtin; refine wpList_append_own _ rfl (.tmp 15) (.tmp 19) 76 rfl w.heap.size 5 i0 (.int .u8 0) 1 1 Tryz.underlying76 hi hz0 hz1 hz2 rfl (by decide) _ _ _ rfl (hown.alloc _) ⟨wr.heap.size, 0, none⟩ 1 1 [.int .u8 c.toNat] rfl rfl (cells_any _ [.int .u8 c.toNat] 5) (by intro u hu; simp at hu; subst hu; rfl) (by unfold maxLen; omega) (by omega) (by simp; omega) ?_)
          intro v' w3 hown3 hgrow _
          have hbe3 : Below w.heap.size w w3 := (hbw.alloc (by omega) _).grown hgrow (by simp; omega) (fun k hk => (hown.lt k hk).1)
          clear hgrow hown hbw
          go_wp2_with fail
          go_roundw
          case rel => exact ⟨k + 1, acc ++ [c], by omega, by go_num, by simp; omega, by simpa [Lib.byteCells] using hown3, hbe3, HF⟩
          case measure => simp [intOf]; omega
    · have hcv := string_of_row hown
      go_wp2_with fail
      go_ret2
      have hU := HU.out
      rw [List.drop_eq_nil_of_le (by rw [← HL.out]; omega), Tt.unesc_nil] at hU
      refine ⟨ret_two ?_ ?_, hbw⟩
      · unfold unescS; rw [← hU]; simp
      · unfold unescB; rw [← hU]; rfl

end Go.Proofs.YtageielcdebjlaaGreatDoor
