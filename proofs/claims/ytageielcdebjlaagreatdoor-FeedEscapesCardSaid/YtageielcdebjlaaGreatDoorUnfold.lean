/- feed.Unfold: its contract. -/
import Derived.Test.YtageielcdebjlaaGreatDoorSame
import Derived.Test.YtageielcdebjlaaGreatDoorCrLf3
import Derived.Test.YtageielcdebjlaaGreatDoorBytes2
namespace Go.Proofs.YtageielcdebjlaaGreatDoor
open Go.RowKit

theorem infoString : (Tryz.prog.info? 9).map (fun i => (i.zero, i.size, i.bytes)) = some (some (.string ⟨#[]⟩), 1, 16) := by kernel_rfl

/-- The lines that Unfold hands back, or that there are none. -/
def Unfolded (B : Nat) (text : List UInt8) (e : Ending) (w : World) : Prop :=
  (Tt.unf text = none ∧ e = .returned (.tuple #[.slice none 0 0, .bool false])) ∨
  ∃ (g : Nat) (cap : Nat) (xs : List ByteArray), Tt.unf text = some (xs.map (·.data.toList)) ∧ e = .returned (.tuple #[.slice (some ⟨g, 0, none⟩) xs.length cap, .bool true]) ∧ StrAt w (some ⟨g, 0, none⟩) xs ∧ B ≤ g ∧ g < w.heap.size ∧ xs.length ≤ cap ∧ xs.length ≤ text.length + 1

/-- How many bytes some lines have. -/
def tot (ls : List (List UInt8)) : Nat := ls.flatten.length

theorem ownsRow_below {w w' : World} {B : Nat} {e : TypeId} {size : Nat} {v : Value} {n : Nat} {xs : List Value} (h : w.ownsRow B e size v n xs) (ho : Below w.heap.size w w') : w'.ownsRow B e size v n xs := by
  refine ⟨h.1, ?_⟩
  rcases h.2 with h1 | ⟨g, cap, cur, r1, r2, r3, r4⟩
  · exact .inl h1
  · exact .inr ⟨g, cap, cur, r1, r2, (ho.block g (Array.getElem?_eq_some_iff.1 r3).1).trans r3, r4⟩

theorem crlf_str : (⟨#[13, 10]⟩ : ByteArray).data.toList = [13, 10] := rfl

theorem pieces (t : ByteArray) : (Lib.splitB ⟨#[13, 10]⟩ 0 (Lib.countB t ⟨#[13, 10]⟩) t).map (·.data.toList) = Lib.split t.data.toList [13, 10] := by
  rw [Lib.splitB_data]; rfl

/-- Rows of strings and of bytes are not the same row. -/
theorem rows_apart {w : World} {B n m : Nat} {v u : Value} {xs ys : List Value} (h : w.ownsRow B 9 1 v n xs) (k : w.ownsRow B 5 1 u m ys) : v.ownBlock = none ∨ v.ownBlock ≠ u.ownBlock := by
  rcases h.2 with ⟨rfl, _⟩ | ⟨g, cap, cur, rfl, _, hg, _⟩
  · exact .inl rfl
  · right
    rcases k.2 with ⟨rfl, _⟩ | ⟨g', cap', cur', rfl, _, hg', _⟩
    · simp [Value.ownBlock]
    · intro e
      simp only [Value.ownBlock, Option.some.injEq] at e
      subst e
      rw [hg] at hg'
      simp at hg'

theorem rows_apart' {w : World} {B n m : Nat} {v u : Value} {xs ys : List Value} (h : w.ownsRow B 9 1 v n xs) (k : w.ownsRow B 5 1 u m ys) : u.ownBlock = none ∨ u.ownBlock ≠ v.ownBlock := by
  rcases rows_apart h k with e | e
  · by_cases h2 : u.ownBlock = none
    · exact .inl h2
    · exact .inr (by rw [e]; exact h2)
  · exact .inr (fun e2 => e e2.symm)

set_option maxRecDepth 100000 in
/-- 'b[:0]': the row's head. -/
theorem slice_zero {w : World} {B n : Nat} {v : Value} {xs : List Value} (h : w.ownsRow B 5 1 v n xs) :
    ∃ v0, (∀ W, (Instr.slice 76 v none (some (.int .i64 0)) none).run Tryz.prog W = .ok v0 W) ∧ (∀ W : World, W.ownsRow B 5 1 v n xs → W.ownsRow B 5 1 v0 0 []) ∧ v0.ownBlock = v.ownBlock := by
  rcases h.2 with ⟨rfl, _⟩ | ⟨g, cap, cur, rfl, _⟩
  · refine ⟨.slice none 0 0, fun W => ?_, fun W _ => World.ownsRow_nil _ _ _ _, rfl⟩
    rw [run_slice_h W 76 none 0 0 Tryz.underlying76 .i64 0 (by omega) (by omega)]
    simp [sliced, go_sem]
  · refine ⟨.slice (some ⟨g, 0, none⟩) 0 cap, fun W => ?_, fun W hW => ?_, rfl⟩
    · rw [run_slice_h W 76 (some ⟨g, 0, none⟩) n cap Tryz.underlying76 .i64 0 (by omega) (by omega)]
      simp [sliced, go_sem, Addr.add]
    · rcases hW.2 with ⟨h1, _⟩ | ⟨g', cap', cur', h1, h2, h3, h4, h5, h6, _⟩
      · cases h1
      · cases h1
        exact ⟨rfl, .inr ⟨g, cap, cur', rfl, h2, h3, Nat.zero_le _, h5, h6, by simp⟩⟩

theorem cell_one (w : World) (v : Value) (e : TypeId) : ∀ (j : Nat) (u : Value), [v][j]? = some u → (w.alloc (.cells #[v] e)).cell? ((⟨w.heap.size, 0, none⟩ : Addr).add j) = some u := by
  intro j u hj
  match j, hj with
  | 0, hj =>
    simp at hj; subst hj
    simp only [Addr.add, if_true]
    rw [World.cell?_alloc_at _ _ _ _ rfl]; rfl

set_option maxHeartbeats 4000000 in
set_option maxRecDepth 100000 in
theorem unfold_any (s : ByteArray) (hs : s.size < 4294967281) (w : World) (m : Int) (hm : w.cell? ⟨0, 0, none⟩ = some (.int .i64 m)) :
    Calls Tryz.prog 37 #[.string s] w fun e w' => Unfolded w.heap.size s.data.toList e w' ∧ Below w.heap.size w w' := by
  by_cases hsuf : Lib.hasSuffix s.data.toList [13, 10] = true
  · have HT := Lib.hid (Tt.suffix_cut _ hsuf)
    have HSF := Lib.hid hsuf
    obtain ⟨t, ht⟩ : ∃ t : ByteArray, t = ⟨(Lib.trimSuffix s.data.toList [13, 10]).toArray⟩ := ⟨_, rfl⟩
    have hts : t.size ≤ s.size := by
      rw [Lib.size_eq, Lib.size_eq, ht]
      exact Lib.trimSuffix_le _ _
    have HTT := Lib.hid ht
    have HPS := Lib.hid (pieces t)
    have hNl := Lib.splitB_all ⟨#[13, 10]⟩ (by decide) 0 (Lib.countB t ⟨#[13, 10]⟩) t rfl
    obtain ⟨ps, hps⟩ : ∃ ps, ps = Lib.splitB ⟨#[13, 10]⟩ 0 (Lib.countB t ⟨#[13, 10]⟩) t := ⟨_, rfl⟩
    rw [← hps] at hNl
    have HP := Lib.hid hps
    clear hsuf ht hps
    go_enter Tryz.func37, Tryz.ntmps37
    go_wp2_with fail
    refine (Tryz.strings_CutSuffix _ _ _ (by omega)).mono ?_
    rintro e w' ⟨rfl, hw⟩
    rw [hw]
    clear hw w'
    rw [crlf_str, HSF.out, ← HTT.out]
    go_wp2_with fail
    refine (Tryz.strings_Split t ⟨#[13, 10]⟩ m w (by omega) hm (by decide)).mono ?_
    rintro e w1 ⟨rfl, hw⟩
    rw [← hNl]
    rw [← HP.out] at hw
    subst hw
    obtain ⟨W, hW⟩ : ∃ W, W = w.alloc (Obj.cells (List.map Value.string ps).toArray 9) := ⟨_, rfl⟩
    have hcells : ∀ (j : Nat) x, ps[j]? = some x → W.cell? ⟨w.heap.size, j, none⟩ = some (.string x) := by
      intro j x hx
      rw [hW, World.cell?_alloc_at _ _ _ _ rfl]
      simp [hx]
    have hbW : Below w.heap.size w W := by rw [hW]; exact (Below.refl _ w).alloc (Nat.le_refl _) _
    have hsW : w.heap.size + 1 ≤ W.heap.size := by rw [hW]; simp
    rw [← hW]
    have HW := Lib.hid hW
    have HCE := Lib.hid hcells
    have hlen : ps.length ≤ t.size + 1 ∧ tot ((ps.map (·.data.toList)).drop 0) ≤ t.size := by
      have := Tt.split_length t.data.toList
      rw [← HPS.out, ← HP.out, ← Lib.size_eq, List.length_map] at this
      exact ⟨this.2, this.1⟩
    obtain ⟨hlen, hflat⟩ := hlen
    rw [← HP.out] at HPS
    have HSP : Hid (s.data.toList = t.data.toList ++ [13, 10]) := by
      have h1 := HT.out
      have h2 : t.data.toList = Lib.trimSuffix s.data.toList [13, 10] := by rw [HTT.out]
      exact h1.trans (by rw [h2])
    clear hW hcells HT HTT HSF
    have hN2 : 1 ≤ ps.length := by omega
    clear hNl
    have HNl := HP
    clear HP
    go_wp2_with fail
    go_loopw [5, 6, 19] (fun ov bv i wr => ∃ (k : Nat) (out : List ByteArray) (bl : List UInt8), k ≤ ps.length ∧ i = .int .i64 k ∧ wr.ownsRow (w.heap.size + 1) 9 1 ov out.length (out.map Value.string) ∧ wr.ownsRow (w.heap.size + 1) 5 1 bv bl.length (Lib.byteCells bl) ∧ Below (w.heap.size + 1) W wr ∧
      out.length ≤ k ∧ bl.length + tot ((ps.map (·.data.toList)).drop k) ≤ t.size ∧
      Hid (∀ (j : Nat) p, j < k → ps[j]? = some p → Tt.Clean p.data.toList) ∧ Hid (k = 0 → out = [] ∧ ov = .slice none 0 0 ∧ bv = .slice none 0 0) ∧ Hid (0 < k → Tt.joinL [] ((ps.map (·.data.toList)).take k) = some (out.map (·.data.toList) ++ [bl]) ∧ out.length < k)) (fun _ _ i _ => ps.length - (intOf i).toNat)
    case atStart => exact ⟨0, [], [], Nat.zero_le _, rfl, World.ownsRow_nil _ _ _ _, World.ownsRow_nil _ _ _ _, Below.refl _ _, Nat.zero_le _, by rw [List.length_nil, Nat.zero_add]; exact hflat, fun j p hj => absurd hj (Nat.not_lt_zero _), fun _ => ⟨rfl, rfl, rfl⟩, fun h => absurd h (Nat.lt_irrefl _)⟩
    case round =>
      obtain ⟨k, out, bl, hk, rfl, hown, hbyt, hbe, hol, hbl, HCL, H0, HJ⟩ := hrel
      have hsr := hbe.size
      by_cases hlt : k < ps.length
      · obtain ⟨p, hp⟩ : ∃ p, ps[k]? = some p := ⟨_, List.getElem?_eq_getElem hlt⟩
        have hcp : wr.cell? ⟨w.heap.size, k, none⟩ = some (.string p) := (hbe.cell (p := ⟨w.heap.size, k, none⟩) (by simp)).trans (HCE.out k p hp)
        have hpm : (ps.map (·.data.toList))[k]? = some p.data.toList := by rw [List.getElem?_map, hp]; rfl
        have hfd := Tt.flatten_drop _ _ _ hpm
        have hbl2 : bl.length + (p.size + tot ((ps.map (·.data.toList)).drop (k + 1))) ≤ t.size := by
          have e1 : tot ((ps.map (·.data.toList)).drop k) = p.size + tot ((ps.map (·.data.toList)).drop (k + 1)) := by
            unfold tot; rw [hfd, ← Lib.size_eq]
          rw [← e1]; exact hbl
        clear hbl
        have HPM := Lib.hid hpm
        have HPP := Lib.hid hp
        clear hp hpm hfd
        by_cases hcl : Tt.Clean p.data.toList
        · have HD := Lib.hid (show (!decide (Tt.Clean p.data.toList)) = false by simp [hcl])
          have HCP := Lib.hid hcl
          clear hcl
          go_wp2_with fail
          refine (containsAny_any _ rfl p (by omega) _).mono ?_
          rintro e w2 ⟨rfl, hb2⟩
          rw [HD.out]
          have hown2 : w2.ownsRow (w.heap.size + 1) 9 1 u5 out.length (out.map Value.string) := ownsRow_below hown hb2
          have hbyt2 : w2.ownsRow (w.heap.size + 1) 5 1 u6 bl.length (Lib.byteCells bl) := ownsRow_below hbyt hb2
          have hbe2 : Below (w.heap.size + 1) W w2 := hbe.trans (hb2.mono (by omega))
          have hsr2 := hbe2.size
          clear hown hbyt hbe hb2 hcp
          by_cases hbg : Tt.begins p.data.toList = true
          · obtain ⟨c, tl, hct⟩ : ∃ c tl, p.data.toList = c :: tl := by
              cases h : p.data.toList with
              | nil => rw [h] at hbg; cases hbg
              | cons c tl => exact ⟨c, tl, rfl⟩
            have hp1 : 1 ≤ p.size := by rw [Lib.size_eq, hct]; simp
            have hx : p[0]'(by omega) = c := by
              have := Lib.data_getElem? p 0 (by omega)
              rw [hct] at this; simpa using this.symm
            have htests : ((c.toNat : Int) == 32) = true ∨ (((c.toNat : Int) == 32) = false ∧ ((c.toNat : Int) == 9) = true) := by
              rw [hct, Tt.begins_cons, Bool.or_eq_true, beq_iff_eq, beq_iff_eq] at hbg
              by_cases e : c = 32
              · exact .inl (byte_eq c 32 32 rfl e)
              · exact .inr ⟨byte_ne c 32 32 rfl e, byte_eq c 9 9 rfl (hbg.resolve_left e)⟩
            have hemp : p.toList.isEmpty = false := by rw [Lib.toList_data, hct]; rfl
            have HCT := Lib.hid hct
            have HBG := Lib.hid hbg
            clear hct hbg
            by_cases hk0 : k = 0
            · have HK0 := Lib.hid hk0
              have HU := Lib.hid (Tt.unf_stops _ _ HSP.out 1 (by
                rw [← HPS.out, Tt.joinL_first _ _ (by rw [← HPM.out, HK0.out]), if_pos HBG.out]))
              have hq : ((k : Int) == 0) = true := beq_iff_eq.2 (by omega)
              clear hk0
              rcases htests with h1 | ⟨h1, h2⟩
              all_goals
                go_wp2_with fail
                go_ret2
                exact ⟨.inl ⟨HU.out, rfl⟩, hbW.trans (hbe2.mono (by omega))⟩
            · have hk1 : 0 < k := by omega
              have hq : ((k : Int) == 0) = false := beq_eq_false_iff_ne.2 (by omega)
              have hJ := HJ.out hk1
              have HJ2 := Lib.hid (Tt.joinL_next _ k _ _ bl HPM.out hJ.1)
              have HO := Lib.hid hJ.2
              clear hJ hk0
              have hz1 : (1 : Int) ≤ (p.size : Int) := by omega
              obtain ⟨i0, hi, hz0, hz2, hz3⟩ := info_parts infoByte
              have hps : p.size = (p.extract 1 p.size).size + 1 := by rw [bs_extract_size p 1 p.size (Nat.le_refl _)]; omega
              have HPS2 := Lib.hid hps
              have hps3 : (p.extract 1 p.size).size + 1 ≤ p.size := by omega
              clear hps
              rcases htests with h1 | ⟨h1, h2⟩
              all_goals
                go_wp2_with (at_builtin; refine Lib.wpList_append_own_string _ rfl (.tmp 40) (.tmp 42) 76 9 rfl (w.heap.size + 1) 5 i0 Tryz.underlying76 Tryz.underlying9 hi hz0 hz2 hz3 _ _ _ rfl hbyt2 (p.extract 1 p.size) rfl (by unfold maxLen; omega) (by omega) (by omega) ?_)
                intro v' w3 hbyt3 hgrow _
                have hown3 := hown2.kept hgrow (rows_apart hown2 hbyt2)
                have hbe3 : Below (w.heap.size + 1) W w3 := hbe2.grown hgrow (by omega) (fun k hk => (hbyt2.lt k hk).1)
                have hbyt4 : w3.ownsRow (w.heap.size + 1) 5 1 v' (bl ++ p.data.toList.tail).length (Lib.byteCells (bl ++ p.data.toList.tail)) := by
                  have e1 : (p.extract 1 p.size).data.toList = p.data.toList.tail := by rw [Lib.extract_to_end]; simp
                  have e2 : p.size - 1 = p.data.toList.tail.length := by rw [Lib.size_eq]; simp
                  rw [List.length_append, Lib.byteCells_append, ← e2, ← e1]
                  exact hbyt3
                clear hgrow hbyt3 hown2 hbyt2 hbe2
                go_wp2_with fail
                go_roundw
                case rel =>
                  refine ⟨k + 1, out, bl ++ p.data.toList.tail, by omega, by go_num, hown3, hbyt4, hbe3, by omega, ?_, ?_, ?_, ?_⟩
                  · have e2 : p.data.toList.tail.length + 1 = p.size := by rw [Lib.size_eq, HCT.out]; simp
                    rw [List.length_append]; omega
                  · intro j q hjj hqq
                    by_cases e : j = k
                    · subst e
                      rw [HPP.out] at hqq; cases hqq; exact HCP.out
                    · exact HCL.out j q (by omega) hqq
                  · exact fun h => by omega
                  · intro _
                    have := HJ2.out
                    rw [if_pos HBG.out] at this
                    exact ⟨this, by have := HO.out; omega⟩
                case measure => simp [intOf]; omega
          · have hfacts : (p.toList = []) ∨ (∃ (h : 0 < p.size) (c : UInt8), p[0]'h = c ∧ p.toList.isEmpty = false ∧ ((c.toNat : Int) == 32) = false ∧ ((c.toNat : Int) == 9) = false) := by
              cases hct : p.data.toList with
              | nil => exact .inl (by rw [Lib.toList_data, hct])
              | cons c tl =>
                right
                have hp1 : 0 < p.size := by rw [Lib.size_eq, hct]; simp
                refine ⟨hp1, c, ?_, by rw [Lib.toList_data, hct]; rfl, ?_, ?_⟩
                · have := Lib.data_getElem? p 0 hp1
                  rw [hct] at this; simpa using this.symm
                · rw [hct, Tt.begins_cons] at hbg
                  exact byte_ne c 32 32 rfl (fun e => hbg (by simp [e]))
                · rw [hct, Tt.begins_cons] at hbg
                  exact byte_ne c 9 9 rfl (fun e => hbg (by simp [e]))
            have hbg2 : Tt.begins p.data.toList = false := by simpa using hbg
            have HBG := Lib.hid hbg2
            clear hbg hbg2
            obtain ⟨i0, hi, hz0, hz2, hz3⟩ := info_parts infoByte
            obtain ⟨i1, hj, hy0, hy2, hy3⟩ := info_parts infoString
            by_cases hk0 : k = 0
            · have hq : ¬ ((0 : Int) < (k : Int)) := by omega
              have H00 := H0.out hk0
              have HK0 := Lib.hid hk0
              obtain ⟨rfl, rfl, rfl⟩ := H00
              have HJ2 := Lib.hid (Tt.joinL_first _ _ (show (ps.map (·.data.toList))[0]? = some p.data.toList by rw [← HPM.out, HK0.out]))
              clear hk0
              rcases hfacts with h1 | ⟨hp0, c, hx, h1, h2, h3⟩
              all_goals
                go_wp2_with (at_builtin; refine Lib.wpList_append_own_string _ rfl (.tmp 52) (.tmp 53) 76 9 rfl (w.heap.size + 1) 5 i0 Tryz.underlying76 Tryz.underlying9 hi hz0 hz2 hz3 _ 0 [] rfl (World.ownsRow_nil _ _ _ _) p rfl (by unfold maxLen; omega) (by omega) (by omega) ?_)
                intro v' w3 hbyt3 hgrow _
                have hown3 := hown2.kept hgrow (.inl rfl)
                have hbe3 : Below (w.heap.size + 1) W w3 := hbe2.grown hgrow (by omega) (fun k hk => by cases hk)
                have hbyt4 : w3.ownsRow (w.heap.size + 1) 5 1 v' p.data.toList.length (Lib.byteCells p.data.toList) := by
                  rw [← Lib.size_eq]
                  simpa [Lib.strCells_eq] using hbyt3
                clear hgrow hbyt3 hown2 hbyt2 hbe2
                go_wp2_with fail
                go_roundw
                case rel =>
                  refine ⟨k + 1, [], p.data.toList, by omega, by go_num, hown3, hbyt4, hbe3, by simp, by rw [← Lib.size_eq]; omega, ?_, fun h => by omega, ?_⟩
                  · intro j q hjj hqq
                    by_cases e : j = k
                    · subst e
                      rw [HPP.out] at hqq; cases hqq; exact HCP.out
                    · exact HCL.out j q (by omega) hqq
                  · intro _
                    have := HJ2.out
                    rw [HBG.out] at this
                    rw [HK0.out]
                    exact ⟨by simpa using this, by simp⟩
                case measure => simp [intOf]; omega
            · have hq : ((0 : Int) < (k : Int)) := by omega
              have hJ := HJ.out (by omega)
              have HJ2 := Lib.hid (Tt.joinL_next _ k _ _ bl HPM.out hJ.1)
              have hO := hJ.2
              obtain ⟨v0, hsl, hv0, hvb⟩ := slice_zero hbyt2
              have hcv := string_of_row hbyt2
              clear hJ hk0
              rcases hfacts with h1 | ⟨hp0, c, hx, h1, h2, h3⟩
              all_goals
                go_wp2_with (at_builtin; refine wpList_append_own _ rfl (.tmp 46) (.tmp 49) 60 rfl (w.heap.size + 1) 9 i1 (.string ⟨#[]⟩) 1 16 Tryz.underlying60 hj hy0 hy2 hy3 rfl (by decide) _ _ _ rfl (hown2.alloc _) ⟨w2.heap.size, 0, none⟩ 1 1 [.string ⟨bl.toArray⟩] rfl rfl (cell_one _ _ _) (by intro u hu; simp at hu; subst hu; rfl) (by unfold maxLen; omega) (by omega) (by simp; omega) ?_)
                intro v' w3 hown3 hgrow _
                have hbyt3 := (hbyt2.alloc (.cells #[.string ⟨bl.toArray⟩] 9)).kept hgrow (rows_apart' hown2 hbyt2)
                have hbe3 : Below (w.heap.size + 1) W w3 := (hbe2.alloc (by omega) _).grown hgrow (by simp; omega) (fun k hk => (hown2.lt k hk).1)
                have hsz3 := hbe3.size
                have hbyt5 := hv0 w3 hbyt3
                clear hgrow hown2 hbyt2 hbe2 hcv
                go_wp2_with (at_builtin; refine Lib.wpList_append_own_string _ rfl (.tmp 52) (.tmp 53) 76 9 rfl (w.heap.size + 1) 5 i0 Tryz.underlying76 Tryz.underlying9 hi hz0 hz2 hz3 _ 0 [] rfl hbyt5 p rfl (by unfold maxLen; omega) (by omega) (by omega) ?_)
                intro v2 w4 hbyt6 hgrow _
                have hown4 := hown3.kept hgrow (rows_apart hown3 hbyt3)
                have hbe4 : Below (w.heap.size + 1) W w4 := hbe3.grown hgrow (by omega) (fun k hk => (hbyt3.lt k hk).1)
                have hbyt7 : w4.ownsRow (w.heap.size + 1) 5 1 v2 p.data.toList.length (Lib.byteCells p.data.toList) := by
                  rw [← Lib.size_eq]
                  simpa [Lib.strCells_eq] using hbyt6
                clear hgrow hbyt6 hown3 hbyt3 hbyt5 hbe3 hsl hv0 hvb
                go_wp2_with fail
                go_roundw
                case rel =>
                  refine ⟨k + 1, out ++ [⟨bl.toArray⟩], p.data.toList, by omega, by go_num, by simpa using hown4, hbyt7, hbe4, by simp; omega, by rw [← Lib.size_eq]; omega, ?_, fun h => by omega, ?_⟩
                  · intro j q hjj hqq
                    by_cases e : j = k
                    · subst e
                      rw [HPP.out] at hqq; cases hqq; exact HCP.out
                    · exact HCL.out j q (by omega) hqq
                  · intro _
                    have := HJ2.out
                    rw [HBG.out] at this
                    exact ⟨by simpa using this, by simp; omega⟩
                case measure => simp [intOf]; omega
        · have HD := Lib.hid (show (!decide (Tt.Clean p.data.toList)) = true by simp [hcl])
          have HU := Lib.hid (Tt.unf_not _ _ HSP.out k p.data.toList (by rw [← HPS.out]; exact HPM.out) hcl)
          clear hcl
          go_wp2_with fail
          refine (containsAny_any _ rfl p (by omega) _).mono ?_
          rintro e w2 ⟨rfl, hb2⟩
          rw [HD.out]
          go_wp2_with fail
          go_ret2
          exact ⟨.inl ⟨HU.out, rfl⟩, (hbW.trans (hbe.mono (by omega))).trans (hb2.mono (by omega))⟩
      · have hk1 : 0 < k := by omega
        have hJ := HJ.out hk1
        have hcv := string_of_row hbyt
        have hO := hJ.2
        have hke : k = ps.length := by omega
        have HK := Lib.hid hke
        have HU := Lib.hid (Tt.unf_all _ _ HSP.out (by
          intro j q hq
          rw [← HPS.out, List.getElem?_map] at hq
          obtain ⟨x, hx, rfl⟩ := Option.map_eq_some_iff.1 hq
          exact HCL.out j x (by rw [HK.out]; exact (List.getElem?_eq_some_iff.1 hx).1) hx))
        have HJ3 := Lib.hid hJ.1
        clear hJ hke
        obtain ⟨i1, hj, hy0, hy2, hy3⟩ := info_parts infoString
        go_wp2_with (at_builtin; refine wpList_append_own _ rfl (.tmp 56) (.tmp 59) 60 rfl (w.heap.size + 1) 9 i1 (.string ⟨#[]⟩) 1 16 Tryz.underlying60 hj hy0 hy2 hy3 rfl (by decide) _ _ _ rfl (hown.alloc _) ⟨wr.heap.size, 0, none⟩ 1 1 [.string ⟨bl.toArray⟩] rfl rfl (cell_one _ _ _) (by intro u hu; simp at hu; subst hu; rfl) (by unfold maxLen; omega) (by omega) (by simp; omega) ?_)
        intro v' w3 hown3 hgrow _
        have hbe3 : Below (w.heap.size + 1) W w3 := (hbe.alloc (by omega) _).grown hgrow (by simp; omega) (fun k hk => (hown.lt k hk).1)
        obtain ⟨g, cap, hv, hlc⟩ : ∃ g cap, v' = .slice (some ⟨g, 0, none⟩) (out.length + 1) cap ∧ out.length + 1 ≤ cap := by
          rcases hown3.2 with ⟨_, h0⟩ | ⟨g, cap, cur, hv, _, _, hlc, _⟩
          · omega
          · exact ⟨g, cap, hv, hlc⟩
        have HLC := Lib.hid hlc
        rw [hv] at hown3 ⊢
        have HR := Lib.hid hown3
        clear hgrow hown3 hown hbyt hbe hcv hv hlc
        go_wp2_with fail
        go_ret2
        refine ⟨.inr ⟨g, cap, out ++ [⟨bl.toArray⟩], ?_, ?_, ?_, ?_, ?_, ?_, ?_⟩, hbW.trans (hbe3.mono (by omega))⟩
        · rw [HU.out, ← HPS.out]
          have := HJ3.out
          rw [List.take_of_length_le (by rw [List.length_map, HK.out]; exact Nat.le_refl _)] at this
          rw [this]; simp
        · simp
        · intro j x hx
          refine ⟨_, rfl, ?_⟩
          exact HR.out.cells (g := g) rfl j (.string x) (by
            have : (out ++ [(⟨bl.toArray⟩ : ByteArray)]).map Value.string = out.map Value.string ++ [.string ⟨bl.toArray⟩] := by simp
            rw [← this, List.getElem?_map, hx]; rfl)
        · have := (HR.out.lt g rfl).1; omega
        · exact (HR.out.lt g rfl).2
        · have hlc := HLC.out; simpa using hlc
        · rw [← Lib.size_eq]; simp; omega
  · have hsf : Lib.hasSuffix s.data.toList [13, 10] = false := by simpa using hsuf
    have HU := Lib.hid (Tt.unf_no_end _ hsf)
    have HSF := Lib.hid hsf
    clear hsuf hsf
    go_enter Tryz.func37, Tryz.ntmps37
    go_wp2_with fail
    refine (Tryz.strings_CutSuffix _ _ _ (by omega)).mono ?_
    rintro e w' ⟨rfl, hw⟩
    rw [hw]
    clear hw w'
    rw [crlf_str, HSF.out]
    go_wp2_with fail
    go_ret2
    exact ⟨.inl ⟨HU.out, rfl⟩, Below.refl _ _⟩

end Go.Proofs.YtageielcdebjlaaGreatDoor
