/- timetableref40.Unfold: its contract. UNDER WAY: does not build yet. -/
import Derived.Test.YtageielcdebjlaaGreatDoorRefEsc
import Derived.Test.YtageielcdebjlaaGreatDoorRefUnf0
namespace Go.Proofs.YtageielcdebjlaaGreatDoor
open Go.RowKit

theorem extract_tail (x : ByteArray) (n : Nat) (h : x.size ≤ n) : (x.extract 1 n).data.toList = x.data.toList.tail := by
  rw [Lib.extract_data, List.drop_one, List.take_of_length_le]
  rw [List.length_tail, ← Lib.size_eq]; omega

set_option maxHeartbeats 4000000 in
set_option maxRecDepth 100000 in
theorem refUnfold_any (s : ByteArray) (hs : s.size < 4294967281) (w : World) :
    Calls Tryz.prog 38 #[.string s] w fun e w' => Unfolded w.heap.size s.data.toList e w' ∧ Below w.heap.size w w' := by
  have HL := Lib.hid (Lib.size_eq s)
  obtain ⟨i1, hj, hy0, hy2, hy3⟩ := info_parts infoString
  go_enter Tryz.func38, Tryz.ntmps38
  go_wp2_with fail
  go_loopw [4, 5, 6] (fun ov sv iv wr => ∃ (st k : Nat) (out : List ByteArray), sv = .int .i64 st ∧ iv = .int .i64 k ∧ st ≤ k ∧ k ≤ s.size ∧ wr.ownsRow w.heap.size 9 1 ov out.length (out.map Value.string) ∧ Below w.heap.size w wr ∧ out.length ≤ k ∧ Hid (s.data.toList ≠ [] → Tt.unf s.data.toList = (Tt.chopGo ((s.data.toList.take k).drop st) (s.data.toList.drop k)).bind (Tt.joinL (out.map (·.data.toList)))) ∧ Hid (0 < st → out ≠ []) ∧ Hid (∀ x ∈ out, x.size ≤ st)) (fun _ _ iv _ => s.size - (intOf iv).toNat)
  case atStart => exact ⟨0, 0, [], rfl, rfl, Nat.le_refl _, Nat.zero_le _, World.ownsRow_nil _ _ _ _, Below.refl _ _, Nat.zero_le _, fun h => Tt.unf_start _ h, fun h => absurd h (Nat.lt_irrefl _), fun x hx => by cases hx⟩
  case round =>
    obtain ⟨st, k, out, rfl, rfl, hst, hk, hown, hbe, hol, HU, HO, HSZ⟩ := hrel
    have hsr := hbe.size
    by_cases hlt : k < s.size
    · obtain ⟨c, hx⟩ : ∃ c : UInt8, s[k]'hlt = c := ⟨_, rfl⟩
      have hcl : s.data.toList[k]? = some c := by rw [← hx]; exact Lib.data_getElem? s k hlt
      have hdr := drop_cons _ _ _ hcl
      have HNE := Lib.hid (show s.data.toList ≠ [] from fun e => by have := HL.out; rw [e, List.length_nil] at this; omega)
      have hun := HU.out HNE.out
      rw [hdr] at hun
      have HD := Lib.hid hcl
      have HUN := Lib.hid hun
      have hki : (k : Int) < (s.size : Int) := by omega
      clear hcl hdr hun
      by_cases h1 : c = 10
      · have t1 := byte_eq c 10 10 rfl h1
        have HN := Lib.hid (show Tt.unf s.data.toList = none by rw [HUN.out, h1, Tt.chopGo_feed]; rfl)
        clear h1
        go_wp2_with fail
        go_ret2
        exact ⟨.inl ⟨HN.out, rfl⟩, hbe⟩
      · have t1 := byte_ne c 10 10 rfl h1
        by_cases h2 : c = 13
        · have t2 : ((c.toNat : Int) != 13) = false := by rw [h2]; rfl
          by_cases h3 : k + 1 = s.size
          · have q : (((k : Int) + 1) == (s.size : Int)) = true := beq_iff_eq.2 (by omega)
            have HN := Lib.hid (show Tt.unf s.data.toList = none by
              rw [HUN.out, show s.data.toList.drop (k + 1) = [] from List.drop_eq_nil_of_le (by rw [← HL.out]; omega), h2, Tt.chopGo_cut]; rfl)
            clear h1 h2 h3
            go_wp2_with fail
            go_ret2
            exact ⟨.inl ⟨HN.out, rfl⟩, hbe⟩
          · have q : (((k : Int) + 1) == (s.size : Int)) = false := beq_eq_false_iff_ne.2 (by omega)
            have hlt2 : k + 1 < s.size := by omega
            obtain ⟨d, hy⟩ : ∃ d : UInt8, s[k + 1]'hlt2 = d := ⟨_, rfl⟩
            have hdl : s.data.toList[k + 1]? = some d := by rw [← hy]; exact Lib.data_getElem? s (k + 1) hlt2
            have HD2 := Lib.hid (drop_cons _ _ _ hdl)
            by_cases h4 : d = 10
            · have t3 : ((d.toNat : Int) != 10) = false := by rw [h4]; rfl
              have hpd : (s.extract st k).data.toList = (s.data.toList.take k).drop st := by
                rw [← Lib.extract_from_zero]; simp [List.drop_take]
              have HPD := Lib.hid hpd
              have hsk : (st : Int) ≤ (k : Int) := by omega
              have hk1 : (k : Int) ≤ (s.size : Int) := by omega
              have HLN : Hid (Tt.unf s.data.toList = (Tt.chopGo ((s.data.toList.take k).drop st) (13 :: 10 :: s.data.toList.drop (k + 1 + 1))).bind (Tt.joinL (out.map (·.data.toList)))) := by
                show _ = _
                rw [HUN.out, HD2.out, h2, h4]
              clear h1 h2 h3 hdl hpd
              by_cases hbg : Tt.begins ((s.data.toList.take k).drop st) = true
              · have hfacts : ∃ (h : 0 < (s.extract st k).size) (c : UInt8), (s.extract st k)[0]'h = c ∧ 0 < k - st ∧ (s.extract st k).toList.isEmpty = false ∧ (((c.toNat : Int) == 32) = true ∨ (((c.toNat : Int) == 32) = false ∧ ((c.toNat : Int) == 9) = true)) := by
                  cases hct : (s.extract st k).data.toList with
                  | nil => rw [← HPD.out, hct] at hbg; cases hbg
                  | cons c tl =>
                    have hp1 : 0 < (s.extract st k).size := by rw [Lib.size_eq, hct]; simp
                    rw [← HPD.out, hct, Tt.begins_cons] at hbg
                    refine ⟨hp1, c, ?_, by rw [bs_extract_size s st k (by omega)] at hp1; exact hp1, by rw [Lib.toList_data, hct]; rfl, ?_⟩
                    · have := Lib.data_getElem? (s.extract st k) 0 hp1
                      rw [hct] at this; simpa using this.symm
                    · by_cases e : c = 32
                      · exact .inl (byte_eq c 32 32 rfl e)
                      · exact .inr ⟨byte_ne c 32 32 rfl e, byte_eq c 9 9 rfl (by simpa [e] using hbg)⟩
                obtain ⟨hp0, c0, e0, hq0, e1, e23⟩ := hfacts
                by_cases ho : out = []
                · have HN := Lib.hid (show Tt.unf s.data.toList = none by rw [HLN.out, ho]; exact Tt.unf_line_first _ _ hbg)
                  have hl0 : out.length = 0 := by rw [ho]; rfl
                  obtain ⟨q1, q2, hv⟩ : ∃ q1 q2, u4 = .slice q1 0 q2 := by
                    rcases hown.2 with ⟨h1, _⟩ | ⟨g, cap, cur, h1, _⟩
                    · exact ⟨_, _, h1⟩
                    · rw [hl0] at h1; exact ⟨_, _, h1⟩
                  clear hbg ho hl0
                  subst hv
                  rcases e23 with e2 | ⟨e2, e3⟩
                  all_goals
                    go_wp2_with fail
                    go_ret2
                    exact ⟨.inl ⟨HN.out, rfl⟩, hbe⟩
                · have HBG := Lib.hid hbg
                  obtain ⟨init, last, hil⟩ : ∃ init last, out = init ++ [last] := ⟨out.dropLast, out.getLast ho, (List.dropLast_concat_getLast ho).symm⟩
                  obtain ⟨n, hn⟩ : ∃ n, n = init.length := ⟨_, rfl⟩
                  have hlen : out.length = n + 1 := by rw [hil, hn]; simp
                  have hcr := hown.2
                  have HIL := Lib.hid hil
                  have HN0 := Lib.hid hn
                  have HLE := Lib.hid hlen
                  have hlen1 : n + 1 ≤ k := by omega
                  obtain ⟨g, cap, hv⟩ : ∃ g cap, u4 = .slice (some ⟨g, 0, none⟩) (n + 1) cap := by
                    rcases hcr with ⟨_, h1⟩ | ⟨g, cap, cur, hv, hg, hgh, hlc, _⟩
                    · omega
                    · exact ⟨g, cap, by rw [hv, hlen]⟩
                  clear hcr hil hn hbg ho
                  rw [hv, hlen] at hown
                  subst hv
                  have hcl : wr.cell? ⟨g, n, none⟩ = some (.string last) := (hown.cellAt n (by omega)).trans (by rw [HIL.out, HN0.out]; simp)
                  have hfr := hown.frozenAt n
                  clear hlen hol
                  have hs1 : last.size ≤ st := HSZ.out last (by rw [HIL.out]; simp)
                  have hs2 : ((s.extract st k).extract 1 (k - st)).size ≤ k := by rw [ByteArray.size_extract, bs_extract_size s st k (by omega)]; omega
                  have hj0 : (0 : Int) ≤ (n : Int) + 1 - 1 := by omega
                  obtain ⟨L, hL⟩ : ∃ L, L = last ++ (s.extract st k).extract 1 (k - st) := ⟨_, rfl⟩
                  have hg : w.heap.size ≤ g := (hown.lt g rfl).1
                  have HOW := Lib.hid (show (wr.setCell ⟨g, n, none⟩ (.string L)).ownsRow w.heap.size 9 1 (.slice (some ⟨g, 0, none⟩) (n + 1) cap) (init ++ [L]).length ((init ++ [L]).map Value.string) from by
                    have := (hown.stored n (.string L)).1
                    rw [HIL.out, HN0.out] at this
                    rw [HN0.out]
                    simpa using this)
                  have hsz : L.size ≤ k := by
                    rw [hL, ByteArray.size_append, ByteArray.size_extract, bs_extract_size s st k (by omega)]; omega
                  have HN : Hid (s.data.toList ≠ [] → Tt.unf s.data.toList = (Tt.chopGo ((s.data.toList.take (k + 1 + 1)).drop (k + 1 + 1)) (s.data.toList.drop (k + 1 + 1))).bind (Tt.joinL ((init ++ [L]).map (·.data.toList)))) := by
                    intro _
                    rw [HLN.out, Tt.unf_line_join _ _ _ HBG.out (by rw [HIL.out]; simp), show (s.data.toList.take (k + 1 + 1)).drop (k + 1 + 1) = [] from List.drop_eq_nil_of_le (List.length_take_le _ _), HIL.out, ← HPD.out, hL]
                    congr 2
                    rw [List.map_append, List.map_append]
                    simp only [List.map_cons, List.map_nil, List.dropLast_concat, List.getLastD_concat]
                    rw [bs_app, extract_tail _ _ (by rw [bs_extract_size s st k (by omega)]; omega)]
                  have HLL := Lib.hid hL
                  clear hL
                  rcases e23 with e2 | ⟨e2, e3⟩
                  all_goals
                    go_wp2_with fail
                    go_region
                    rw [← HLL.out]
                    go_wp2_with fail
                    go_roundw
                    case rel => exact ⟨k + 1 + 1, k + 1 + 1, init ++ [L], by go_num, by go_num, by omega, by omega, HOW.out, (hbe.setCell (p := ⟨g, n, none⟩) hg _).drew, by rw [List.length_append, ← HN0.out]; simp; omega, HN, (fun _ => by simp), fun x hx => by
                      rcases List.mem_append.1 hx with h | h
                      · have := HSZ.out x (by rw [HIL.out]; simp [h]); omega
                      · rw [List.mem_singleton.1 h]; omega⟩
                    case measure => simp [intOf]; omega
              · have hbg2 : Tt.begins ((s.data.toList.take k).drop st) = false := by simpa using hbg
                have hfacts : ((s.extract st k).toList = []) ∨ (∃ (h : 0 < (s.extract st k).size) (c : UInt8), (s.extract st k)[0]'h = c ∧ 0 < k - st ∧ (s.extract st k).toList.isEmpty = false ∧ ((c.toNat : Int) == 32) = false ∧ ((c.toNat : Int) == 9) = false) := by
                  cases hct : (s.extract st k).data.toList with
                  | nil => exact .inl (by rw [Lib.toList_data, hct])
                  | cons c tl =>
                    right
                    have hp1 : 0 < (s.extract st k).size := by rw [Lib.size_eq, hct]; simp
                    rw [← HPD.out, hct, Tt.begins_cons] at hbg
                    refine ⟨hp1, c, ?_, by rw [bs_extract_size s st k (by omega)] at hp1; exact hp1, by rw [Lib.toList_data, hct]; rfl, byte_ne c 32 32 rfl (fun e => hbg (by simp [e])), byte_ne c 9 9 rfl (fun e => hbg (by simp [e]))⟩
                    have := Lib.data_getElem? (s.extract st k) 0 hp1
                    rw [hct] at this; simpa using this.symm
                have HN : Hid (s.data.toList ≠ [] → Tt.unf s.data.toList = (Tt.chopGo ((s.data.toList.take (k + 1 + 1)).drop (k + 1 + 1)) (s.data.toList.drop (k + 1 + 1))).bind (Tt.joinL ((out ++ [s.extract st k]).map (·.data.toList)))) := by
                  intro _
                  rw [HLN.out, Tt.unf_line_new _ _ _ hbg2, show (s.data.toList.take (k + 1 + 1)).drop (k + 1 + 1) = [] from List.drop_eq_nil_of_le (List.length_take_le _ _), List.map_append, ← HPD.out]
                  rfl
                clear hbg hbg2
                rcases hfacts with e1 | ⟨hp0, c0, e0, hq0, e1, e2, e3⟩
                all_goals
                  go_wp2_with (at_builtin; refine wpList_append_own _ rfl (.tmp 63) (.tmp 65) 60 rfl w.heap.size 9 i1 (.string ⟨#[]⟩) 1 16 Tryz.underlying60 hj hy0 hy2 hy3 rfl (by decide) _ _ _ rfl (hown.alloc _) ⟨wr.heap.size, 0, none⟩ 1 1 [.string (s.extract st k)] rfl rfl (cell_one _ _ _) (by intro u hu; simp at hu; subst hu; rfl) (by unfold maxLen; omega) (by omega) (by simp; omega) ?_)
                  intro v' w3 hown3 hgrow _
                  have hbe3 : Below w.heap.size w w3 := (hbe.alloc (by omega) _).grown hgrow (by simp; omega) (fun k hk => (hown.lt k hk).1)
                  clear hgrow hown hbe
                  go_wp2_with fail
                  go_roundw
                  case rel => exact ⟨k + 1 + 1, k + 1 + 1, out ++ [s.extract st k], by go_num, by go_num, by omega, by omega, by simpa using hown3, hbe3, by simp; omega, HN, (fun _ => by simp), fun x hx => by
                    rcases List.mem_append.1 hx with h | h
                    · have := HSZ.out x h; omega
                    · rw [List.mem_singleton.1 h, bs_extract_size s st k (by omega)]; omega⟩
                  case measure => simp [intOf]; omega
            · have t3 : ((d.toNat : Int) != 10) = true := by
                have := byte_ne d 10 10 rfl h4
                simp only [bne, this]; rfl
              have HN := Lib.hid (show Tt.unf s.data.toList = none by
                rw [HUN.out, HD2.out, h2, Tt.chopGo_lone _ _ _ h4]; rfl)
              clear h1 h2 h3 h4 hdl
              go_wp2_with fail
              go_ret2
              exact ⟨.inl ⟨HN.out, rfl⟩, hbe⟩
        · have t2 : ((c.toNat : Int) != 13) = true := by
            have := byte_ne c 13 13 rfl h2
            simp only [bne, this]; rfl
          have HN : Hid (s.data.toList ≠ [] → Tt.unf s.data.toList = (Tt.chopGo ((s.data.toList.take (k + 1)).drop st) (s.data.toList.drop (k + 1))).bind (Tt.joinL (out.map (·.data.toList)))) := by
            intro _
            rw [HUN.out, Tt.chopGo_plain _ _ _ h2 h1]
            obtain ⟨g1, g2⟩ := List.getElem?_eq_some_iff.1 HD.out
            rw [List.take_succ_eq_append_getElem g1, g2, List.drop_append_of_le_length (by rw [List.length_take, ← HL.out]; omega)]
          clear h1 h2
          go_wp2_with fail
          go_roundw
          case rel => exact ⟨st, k + 1, out, rfl, by go_num, by omega, by omega, hown, hbe, by omega, HN, HO, HSZ⟩
          case measure => simp [intOf]; omega
    · have hke : k = s.size := by omega
      have HK := Lib.hid hke
      have hdr : s.data.toList.drop k = [] := List.drop_eq_nil_of_le (by rw [← HL.out]; omega)
      have htk : s.data.toList.take k = s.data.toList := List.take_of_length_le (by rw [← HL.out]; omega)
      by_cases h1 : st = s.size
      · have q1 : (((st : Int)) != (s.size : Int)) = false := by simp; omega
        by_cases h2 : st = 0
        · have q2 : ((st : Int) == 0) = true := beq_iff_eq.2 (by omega)
          have HN := Lib.hid (show Tt.unf s.data.toList = none by
            have : s.data.toList = [] := List.eq_nil_of_length_eq_zero (by rw [← HL.out]; omega)
            rw [this]; rfl)
          clear h1 h2 hdr htk hke
          go_wp2_with fail
          go_ret2
          exact ⟨.inl ⟨HN.out, rfl⟩, hbe⟩
        · have q2 : ((st : Int) == 0) = false := beq_eq_false_iff_ne.2 (by omega)
          have hne : s.data.toList ≠ [] := fun e => h2 (by have := HL.out; rw [e, List.length_nil] at this; omega)
          have HN := Lib.hid (show Tt.unf s.data.toList = some (out.map (·.data.toList)) by
            rw [HU.out hne, hdr, htk, List.drop_eq_nil_of_le (by rw [← HL.out]; omega)]
            exact Tt.unf_done _)
          have hoe := HO.out (by omega)
          clear h1 h2 hdr htk hke hne
          rcases hown.2 with ⟨_, h0⟩ | ⟨g, cap, cur, hv, hg, hgh, hlc, _⟩
          · exact absurd (List.eq_nil_of_length_eq_zero h0) hoe
          · have ho := Lib.hid (hv ▸ hown)
            have hglt := (Array.getElem?_eq_some_iff.1 hgh).1
            subst hv
            clear hown hgh
            go_wp2_with fail
            go_ret2
            refine ⟨.inr ⟨g, cap, out, HN.out, rfl, ?_, hg, hglt, hlc, by rw [← HL.out]; omega⟩, hbe⟩
            intro j x hx
            exact ⟨_, rfl, ho.out.cells (g := g) rfl j (.string x) (by rw [List.getElem?_map, hx]; rfl)⟩
      · have q1 : (((st : Int)) != (s.size : Int)) = true := by simp; omega
        have HN := Lib.hid (show Tt.unf s.data.toList = none by
          have hne : s.data.toList ≠ [] := fun e => h1 (by have := HL.out; rw [e, List.length_nil] at this; omega)
          rw [HU.out hne, hdr, htk]
          refine Tt.unf_rest _ _ ?_
          intro e
          have := congrArg List.length e
          rw [List.length_drop, ← HL.out] at this
          simp at this; omega)
        clear h1 hdr htk hke
        go_wp2_with fail
        go_ret2
        exact ⟨.inl ⟨HN.out, rfl⟩, hbe⟩
end Go.Proofs.YtageielcdebjlaaGreatDoor
