/- timetablemore.put: a session laid into a list: its contract. -/
import Derived.Test.YtageielcdebjlaaGreatDoorPk25
import Derived.BigQuiet
namespace Go.Proofs.YtageielcdebjlaaGreatDoor
open Go.RowKit

set_option maxHeartbeats 8000000 in
set_option maxRecDepth 100000 in
theorem put123 (lo : Nat) (xs : List Ses) (ao : Option Addr) (c : Nat) (s : Ses) (aw : Bool) (w : World) (hX : RowS lo w (.slice ao xs.length c) xs) (hl : xs.length ≤ 100000) : Calls Tryz.prog 123 #[.slice ao xs.length c, sesVal s, .bool aw] w fun e w' => ∃ (u : Value) (ys : List Ses), e = .returned u ∧ RowS w.heap.size w' u ys ∧ ys.length ≤ xs.length + 1 ∧ Below w.heap.size w w' := by
  obtain ⟨i0, hii, hz0, hz1, hz2⟩ := info_parts infoSes
  obtain ⟨P, hP⟩ : ∃ g, g = w.heap.size := ⟨_, rfl⟩
  obtain ⟨w0, hw0⟩ : ∃ X, X = w.alloc (.cells #[.string s.cls, .int .i64 s.tim.weeks, .int .i64 s.tim.day, .int .i64 s.tim.start, .int .i64 s.tim.len, .string s.room] 107) := ⟨_, rfl⟩
  have HB0 := Lib.hid (show Below w.heap.size w w0 from by rw [hw0]; exact below_box w _)
  have HP0 := Lib.hid (show Blk P #[.string s.cls, .int .i64 s.tim.weeks, .int .i64 s.tim.day, .int .i64 s.tim.start, .int .i64 s.tim.len, .string s.room] 107 w0 from by rw [hw0, hP]; exact Blk.new w _ _)
  have HPW := Lib.hid (show w.heap.size ≤ P by omega)
  have hPlt : P < w0.heap.size := HP0.out.lt
  have hws := HB0.out.size; have HX := Lib.hid hX; obtain ⟨n, hn⟩ : ∃ n, n = xs.length := ⟨_, rfl⟩
  rw [← hn] at HX hl ⊢
  have HN := Lib.hid hn; clear hX hn; unfold sesVal sesCells
  go_enter Tryz.func123, Tryz.ntmps123
  go_upto_region 1 with (fail)
  rw [← hw0, ← hP]; clear hw0 hP; go_wp2_with fail
  go_loopw [7, 8, 9] (fun uv dv iv wr => ∃ (k : Nat) (dn : Bool) (ys : List Ses), dv = .bool dn ∧ iv = .int .i64 k ∧ k ≤ n ∧ ys.length ≤ k + (if dn = true then 1 else 0) ∧ Hid (RowS w0.heap.size wr uv ys) ∧ Hid (Below w0.heap.size w0 wr)) (fun _ _ iv _ => n - (intOf iv).toNat)
  case atStart => exact ⟨0, aw, [], rfl, rfl, Nat.zero_le _, Nat.zero_le _, Lib.hid (RowS.nil _ _), Lib.hid (Below.refl _ _)⟩
  case round =>
    obtain ⟨k, dn, ys, rfl, rfl, hk, hyl, HY, HB⟩ := hrel; have p0 : wr.cell? ⟨P, 0, none⟩ = some (.string s.cls) := (HP0.out.below HB.out hPlt).cell 0
    have p1 : wr.cell? ⟨P, 1, none⟩ = some (.int .i64 s.tim.weeks) := (HP0.out.below HB.out hPlt).cell 1
    have p2 : wr.cell? ⟨P, 2, none⟩ = some (.int .i64 s.tim.day) := (HP0.out.below HB.out hPlt).cell 2
    have p3 : wr.cell? ⟨P, 3, none⟩ = some (.int .i64 s.tim.start) := (HP0.out.below HB.out hPlt).cell 3
    have p4 : wr.cell? ⟨P, 4, none⟩ = some (.int .i64 s.tim.len) := (HP0.out.below HB.out hPlt).cell 4
    have p5 : wr.cell? ⟨P, 5, none⟩ = some (.string s.room) := (HP0.out.below HB.out hPlt).cell 5
    by_cases hlt : k < n
    rotate_left
    · have hki : ¬ (k : Int) < (n : Int) := by omega
      cases dn with
      | true =>
        have hyl : ys.length ≤ n + 1 := by have : ys.length ≤ k + 1 := hyl; omega
        go_wp2_with fail
        go_ret; first | exact ⟨_, _, rfl, RowS.mono HY.out hws, by first | omega | (rw [List.length_append]; simp; omega), HB0.out.trans (HB.out.mono hws)⟩ | exact ⟨_, rfl, _, RowS.mono HY.out hws, by first | omega | (rw [List.length_append]; simp; omega), HB0.out.trans (HB.out.mono hws)⟩
      | false =>
        have hyl : ys.length ≤ n := by have : ys.length ≤ k := hyl; omega
        have HYL := Lib.hid hyl; obtain ⟨pu, cu, hu⟩ := HY.out.slice
        subst hu; go_wp2_with (at_builtin; refine wpList_append_own_at _ rfl (.tmp 50) (.tmp 52) 110 rfl w0.heap.size 107 i0 _ 6 64 Tryz.underlying110 hii hz0 hz1 hz2 rfl (by decide) _ _ _ rfl (World.ownsRow.alloc HY.out _) ⟨wr.heap.size, 0, none⟩ 1 1 (sesCells s).toList rfl rfl (blk_cells (Blk.new wr (sesCells s) 107)) (sL_cell1 s) (by unfold maxLen; omega) (by omega) (by have := HB.out.size; simp; omega) ?_)
        intro v8 x8 hown8 hgrow _ hat; have HB8 := Lib.hid (below_grownBy (HB.out.trans ((below_box wr _).mono HB.out.size)) (World.ownsRow.alloc HY.out _) (Nat.le_refl _) (by have := HB.out.size; simp; omega) hgrow)
        have HX8 := Lib.hid (show RowS w0.heap.size x8 v8 (ys ++ [s]) from RowS.snoc hown8)
        clear hown8 hgrow hat; clear p0 p1 p2 p3 p4 p5; go_wp2_with fail
        go_ret; first | exact ⟨_, _, rfl, RowS.mono HX8.out hws, by first | omega | (rw [List.length_append]; simp; omega), HB0.out.trans (HB8.out.mono hws)⟩ | exact ⟨_, rfl, _, RowS.mono HX8.out hws, by first | omega | (rw [List.length_append]; simp; omega), HB0.out.trans (HB8.out.mono hws)⟩
    have hki : (k : Int) < (n : Int) := by omega
    have hk0 : (0 : Int) ≤ (k : Int) := by omega
    obtain ⟨t, ht⟩ : ∃ t, xs[k]? = some t := ⟨_, List.getElem?_eq_getElem (by have := HN.out; omega)⟩
    have HXn := Lib.hid (show RowS lo w (.slice ao xs.length c) xs from by have h := HX.out; rw [HN.out] at h; exact h)
    obtain ⟨g, cg, hg, -⟩ := HXn.out.form (by have := HN.out; omega)
    have hao : ao = some ⟨g, 0, none⟩ := by injection hg
    subst hao; have hgw : g < w.heap.size := (World.ownsRow.lt HX.out g rfl).2
    have q0 : wr.cell? ⟨g, k * 6 + 0, none⟩ = some (.string t.cls) := ((HB0.out.trans (HB.out.mono hws)).cell (p := ⟨g, k * 6 + 0, none⟩) hgw).trans (HX.out.cell k 0 t _ ht (by decide) rfl)
    have q1 : wr.cell? ⟨g, k * 6 + 1, none⟩ = some (.int .i64 t.tim.weeks) := ((HB0.out.trans (HB.out.mono hws)).cell (p := ⟨g, k * 6 + 1, none⟩) hgw).trans (HX.out.cell k 1 t _ ht (by decide) rfl)
    have q2 : wr.cell? ⟨g, k * 6 + 2, none⟩ = some (.int .i64 t.tim.day) := ((HB0.out.trans (HB.out.mono hws)).cell (p := ⟨g, k * 6 + 2, none⟩) hgw).trans (HX.out.cell k 2 t _ ht (by decide) rfl)
    have q3 : wr.cell? ⟨g, k * 6 + 3, none⟩ = some (.int .i64 t.tim.start) := ((HB0.out.trans (HB.out.mono hws)).cell (p := ⟨g, k * 6 + 3, none⟩) hgw).trans (HX.out.cell k 3 t _ ht (by decide) rfl)
    have q4 : wr.cell? ⟨g, k * 6 + 4, none⟩ = some (.int .i64 t.tim.len) := ((HB0.out.trans (HB.out.mono hws)).cell (p := ⟨g, k * 6 + 4, none⟩) hgw).trans (HX.out.cell k 4 t _ ht (by decide) rfl)
    have q5 : wr.cell? ⟨g, k * 6 + 5, none⟩ = some (.string t.room) := ((HB0.out.trans (HB.out.mono hws)).cell (p := ⟨g, k * 6 + 5, none⟩) hgw).trans (HX.out.cell k 5 t _ ht (by decide) rfl)
    have q0 : wr.cell? ⟨g, k * 6, none⟩ = some (.string t.cls) := q0
    obtain ⟨lb, hlb⟩ : ∃ b, Op.bytesLess t.cls.toList s.cls.toList = b := ⟨_, rfl⟩
    obtain ⟨eb, heb⟩ : ∃ b, (t.cls.toList == s.cls.toList) = b := ⟨_, rfl⟩
    have HT := Lib.hid ht; clear ht HXn hg; have HLT := Lib.hid hlt; cases dn with
    | true =>
      have hyl2 : ys.length ≤ k + 1 := hyl
      clear hyl; go_wp2_with fail
      go_quiet (fail)
      obtain ⟨wy, hq⟩ : ∃ X, X = wr.drewN nq := ⟨_, rfl⟩
      have HY_wy := Lib.hid (show RowS w0.heap.size wy _ (ys) from by rw [hq]; exact HY.out)
      have HB_wy := Lib.hid (show Below w0.heap.size w0 wy from by rw [hq]; exact HB.out.trans ⟨rfl, rfl, rfl, Nat.le_refl _, fun k hk => rfl⟩)
      rw [← hq]; clear hq nq; clear p0 p1 p2 p3 p4 p5; clear q0 q1 q2 q3 q4 q5; have p0 : wy.cell? ⟨P, 0, none⟩ = some (.string s.cls) := (HP0.out.below HB_wy.out hPlt).cell 0
      have p1 : wy.cell? ⟨P, 1, none⟩ = some (.int .i64 s.tim.weeks) := (HP0.out.below HB_wy.out hPlt).cell 1
      have p2 : wy.cell? ⟨P, 2, none⟩ = some (.int .i64 s.tim.day) := (HP0.out.below HB_wy.out hPlt).cell 2
      have p3 : wy.cell? ⟨P, 3, none⟩ = some (.int .i64 s.tim.start) := (HP0.out.below HB_wy.out hPlt).cell 3
      have p4 : wy.cell? ⟨P, 4, none⟩ = some (.int .i64 s.tim.len) := (HP0.out.below HB_wy.out hPlt).cell 4
      have p5 : wy.cell? ⟨P, 5, none⟩ = some (.string s.room) := (HP0.out.below HB_wy.out hPlt).cell 5
      have q0 : wy.cell? ⟨g, k * 6 + 0, none⟩ = some (.string t.cls) := ((HB0.out.trans (HB_wy.out.mono hws)).cell (p := ⟨g, k * 6 + 0, none⟩) hgw).trans (HX.out.cell k 0 t _ HT.out (by decide) rfl)
      have q1 : wy.cell? ⟨g, k * 6 + 1, none⟩ = some (.int .i64 t.tim.weeks) := ((HB0.out.trans (HB_wy.out.mono hws)).cell (p := ⟨g, k * 6 + 1, none⟩) hgw).trans (HX.out.cell k 1 t _ HT.out (by decide) rfl)
      have q2 : wy.cell? ⟨g, k * 6 + 2, none⟩ = some (.int .i64 t.tim.day) := ((HB0.out.trans (HB_wy.out.mono hws)).cell (p := ⟨g, k * 6 + 2, none⟩) hgw).trans (HX.out.cell k 2 t _ HT.out (by decide) rfl)
      have q3 : wy.cell? ⟨g, k * 6 + 3, none⟩ = some (.int .i64 t.tim.start) := ((HB0.out.trans (HB_wy.out.mono hws)).cell (p := ⟨g, k * 6 + 3, none⟩) hgw).trans (HX.out.cell k 3 t _ HT.out (by decide) rfl)
      have q4 : wy.cell? ⟨g, k * 6 + 4, none⟩ = some (.int .i64 t.tim.len) := ((HB0.out.trans (HB_wy.out.mono hws)).cell (p := ⟨g, k * 6 + 4, none⟩) hgw).trans (HX.out.cell k 4 t _ HT.out (by decide) rfl)
      have q5 : wy.cell? ⟨g, k * 6 + 5, none⟩ = some (.string t.room) := ((HB0.out.trans (HB_wy.out.mono hws)).cell (p := ⟨g, k * 6 + 5, none⟩) hgw).trans (HX.out.cell k 5 t _ HT.out (by decide) rfl)
      have q0 : wy.cell? ⟨g, k * 6, none⟩ = some (.string t.cls) := q0
      go_wp2_with fail
      go_quiet (fail)
      obtain ⟨wz, hq⟩ : ∃ X, X = wy.drewN nq := ⟨_, rfl⟩
      have HY_wz := Lib.hid (show RowS w0.heap.size wz _ (ys) from by rw [hq]; exact HY_wy.out)
      have HB_wz := Lib.hid (show Below w0.heap.size w0 wz from by rw [hq]; exact HB_wy.out.trans ⟨rfl, rfl, rfl, Nat.le_refl _, fun k hk => rfl⟩)
      rw [← hq]; clear hq nq; clear p0 p1 p2 p3 p4 p5; clear q0 q1 q2 q3 q4 q5; have p0 : wz.cell? ⟨P, 0, none⟩ = some (.string s.cls) := (HP0.out.below HB_wz.out hPlt).cell 0
      have p1 : wz.cell? ⟨P, 1, none⟩ = some (.int .i64 s.tim.weeks) := (HP0.out.below HB_wz.out hPlt).cell 1
      have p2 : wz.cell? ⟨P, 2, none⟩ = some (.int .i64 s.tim.day) := (HP0.out.below HB_wz.out hPlt).cell 2
      have p3 : wz.cell? ⟨P, 3, none⟩ = some (.int .i64 s.tim.start) := (HP0.out.below HB_wz.out hPlt).cell 3
      have p4 : wz.cell? ⟨P, 4, none⟩ = some (.int .i64 s.tim.len) := (HP0.out.below HB_wz.out hPlt).cell 4
      have p5 : wz.cell? ⟨P, 5, none⟩ = some (.string s.room) := (HP0.out.below HB_wz.out hPlt).cell 5
      have q0 : wz.cell? ⟨g, k * 6 + 0, none⟩ = some (.string t.cls) := ((HB0.out.trans (HB_wz.out.mono hws)).cell (p := ⟨g, k * 6 + 0, none⟩) hgw).trans (HX.out.cell k 0 t _ HT.out (by decide) rfl)
      have q1 : wz.cell? ⟨g, k * 6 + 1, none⟩ = some (.int .i64 t.tim.weeks) := ((HB0.out.trans (HB_wz.out.mono hws)).cell (p := ⟨g, k * 6 + 1, none⟩) hgw).trans (HX.out.cell k 1 t _ HT.out (by decide) rfl)
      have q2 : wz.cell? ⟨g, k * 6 + 2, none⟩ = some (.int .i64 t.tim.day) := ((HB0.out.trans (HB_wz.out.mono hws)).cell (p := ⟨g, k * 6 + 2, none⟩) hgw).trans (HX.out.cell k 2 t _ HT.out (by decide) rfl)
      have q3 : wz.cell? ⟨g, k * 6 + 3, none⟩ = some (.int .i64 t.tim.start) := ((HB0.out.trans (HB_wz.out.mono hws)).cell (p := ⟨g, k * 6 + 3, none⟩) hgw).trans (HX.out.cell k 3 t _ HT.out (by decide) rfl)
      have q4 : wz.cell? ⟨g, k * 6 + 4, none⟩ = some (.int .i64 t.tim.len) := ((HB0.out.trans (HB_wz.out.mono hws)).cell (p := ⟨g, k * 6 + 4, none⟩) hgw).trans (HX.out.cell k 4 t _ HT.out (by decide) rfl)
      have q5 : wz.cell? ⟨g, k * 6 + 5, none⟩ = some (.string t.room) := ((HB0.out.trans (HB_wz.out.mono hws)).cell (p := ⟨g, k * 6 + 5, none⟩) hgw).trans (HX.out.cell k 5 t _ HT.out (by decide) rfl)
      have q0 : wz.cell? ⟨g, k * 6, none⟩ = some (.string t.cls) := q0
      cases eb
      · have HYL := Lib.hid hyl2; obtain ⟨pu, cu, hu⟩ := HY_wz.out.slice
        subst hu; go_wp2_with (at_builtin; refine wpList_append_own_at _ rfl (.tmp 41) (.tmp 46) 110 rfl w0.heap.size 107 i0 _ 6 64 Tryz.underlying110 hii hz0 hz1 hz2 rfl (by decide) _ _ _ rfl (World.ownsRow.alloc HY_wz.out _) ⟨wz.heap.size, 0, none⟩ 1 1 (sesCells t).toList rfl rfl (blk_cells (Blk.new wz (sesCells t) 107)) (sL_cell1 t) (by unfold maxLen; omega) (by omega) (by have := HB_wz.out.size; simp; omega) ?_)
        intro v8 x8 hown8 hgrow _ hat; have HB8 := Lib.hid (below_grownBy (HB_wz.out.trans ((below_box wz _).mono HB_wz.out.size)) (World.ownsRow.alloc HY_wz.out _) (Nat.le_refl _) (by have := HB_wz.out.size; simp; omega) hgrow)
        have HX8 := Lib.hid (show RowS w0.heap.size x8 v8 (ys ++ [t]) from RowS.snoc hown8)
        clear hown8 hgrow hat; clear p0 p1 p2 p3 p4 p5; clear q0 q1 q2 q3 q4 q5; go_wp2_with fail
        go_roundw
        case rel => exact ⟨k + 1, true, ys ++ [t], rfl, by go_num, by have := HLT.out; omega, by rw [List.length_append]; simp; have := HYL.out; first | omega | (simp at this; omega), HX8, HB8⟩
        case measure => simp [intOf]; omega
      · have HYL := Lib.hid hyl2; go_wp2_with fail
        go_roundw
        case rel => exact ⟨k + 1, true, ys, rfl, by go_num, by have := HLT.out; omega, by have := HYL.out; first | omega | (simp at this ⊢; omega), HY_wz, HB_wz⟩
        case measure => simp [intOf]; omega
    | false =>
      have hyl2 : ys.length ≤ k := hyl
      clear hyl; cases lb
      rotate_left
      · go_wp2_with fail
        go_quiet (fail)
        obtain ⟨wy, hq⟩ : ∃ X, X = wr.drewN nq := ⟨_, rfl⟩
        have HY_wy := Lib.hid (show RowS w0.heap.size wy _ (ys) from by rw [hq]; exact HY.out)
        have HB_wy := Lib.hid (show Below w0.heap.size w0 wy from by rw [hq]; exact HB.out.trans ⟨rfl, rfl, rfl, Nat.le_refl _, fun k hk => rfl⟩)
        rw [← hq]; clear hq nq; clear p0 p1 p2 p3 p4 p5; clear q0 q1 q2 q3 q4 q5; have p0 : wy.cell? ⟨P, 0, none⟩ = some (.string s.cls) := (HP0.out.below HB_wy.out hPlt).cell 0
        have p1 : wy.cell? ⟨P, 1, none⟩ = some (.int .i64 s.tim.weeks) := (HP0.out.below HB_wy.out hPlt).cell 1
        have p2 : wy.cell? ⟨P, 2, none⟩ = some (.int .i64 s.tim.day) := (HP0.out.below HB_wy.out hPlt).cell 2
        have p3 : wy.cell? ⟨P, 3, none⟩ = some (.int .i64 s.tim.start) := (HP0.out.below HB_wy.out hPlt).cell 3
        have p4 : wy.cell? ⟨P, 4, none⟩ = some (.int .i64 s.tim.len) := (HP0.out.below HB_wy.out hPlt).cell 4
        have p5 : wy.cell? ⟨P, 5, none⟩ = some (.string s.room) := (HP0.out.below HB_wy.out hPlt).cell 5
        have q0 : wy.cell? ⟨g, k * 6 + 0, none⟩ = some (.string t.cls) := ((HB0.out.trans (HB_wy.out.mono hws)).cell (p := ⟨g, k * 6 + 0, none⟩) hgw).trans (HX.out.cell k 0 t _ HT.out (by decide) rfl)
        have q1 : wy.cell? ⟨g, k * 6 + 1, none⟩ = some (.int .i64 t.tim.weeks) := ((HB0.out.trans (HB_wy.out.mono hws)).cell (p := ⟨g, k * 6 + 1, none⟩) hgw).trans (HX.out.cell k 1 t _ HT.out (by decide) rfl)
        have q2 : wy.cell? ⟨g, k * 6 + 2, none⟩ = some (.int .i64 t.tim.day) := ((HB0.out.trans (HB_wy.out.mono hws)).cell (p := ⟨g, k * 6 + 2, none⟩) hgw).trans (HX.out.cell k 2 t _ HT.out (by decide) rfl)
        have q3 : wy.cell? ⟨g, k * 6 + 3, none⟩ = some (.int .i64 t.tim.start) := ((HB0.out.trans (HB_wy.out.mono hws)).cell (p := ⟨g, k * 6 + 3, none⟩) hgw).trans (HX.out.cell k 3 t _ HT.out (by decide) rfl)
        have q4 : wy.cell? ⟨g, k * 6 + 4, none⟩ = some (.int .i64 t.tim.len) := ((HB0.out.trans (HB_wy.out.mono hws)).cell (p := ⟨g, k * 6 + 4, none⟩) hgw).trans (HX.out.cell k 4 t _ HT.out (by decide) rfl)
        have q5 : wy.cell? ⟨g, k * 6 + 5, none⟩ = some (.string t.room) := ((HB0.out.trans (HB_wy.out.mono hws)).cell (p := ⟨g, k * 6 + 5, none⟩) hgw).trans (HX.out.cell k 5 t _ HT.out (by decide) rfl)
        have q0 : wy.cell? ⟨g, k * 6, none⟩ = some (.string t.cls) := q0
        go_wp2_with fail
        go_quiet (fail)
        obtain ⟨wz, hq⟩ : ∃ X, X = wy.drewN nq := ⟨_, rfl⟩
        have HY_wz := Lib.hid (show RowS w0.heap.size wz _ (ys) from by rw [hq]; exact HY_wy.out)
        have HB_wz := Lib.hid (show Below w0.heap.size w0 wz from by rw [hq]; exact HB_wy.out.trans ⟨rfl, rfl, rfl, Nat.le_refl _, fun k hk => rfl⟩)
        rw [← hq]; clear hq nq; clear p0 p1 p2 p3 p4 p5; clear q0 q1 q2 q3 q4 q5; have p0 : wz.cell? ⟨P, 0, none⟩ = some (.string s.cls) := (HP0.out.below HB_wz.out hPlt).cell 0
        have p1 : wz.cell? ⟨P, 1, none⟩ = some (.int .i64 s.tim.weeks) := (HP0.out.below HB_wz.out hPlt).cell 1
        have p2 : wz.cell? ⟨P, 2, none⟩ = some (.int .i64 s.tim.day) := (HP0.out.below HB_wz.out hPlt).cell 2
        have p3 : wz.cell? ⟨P, 3, none⟩ = some (.int .i64 s.tim.start) := (HP0.out.below HB_wz.out hPlt).cell 3
        have p4 : wz.cell? ⟨P, 4, none⟩ = some (.int .i64 s.tim.len) := (HP0.out.below HB_wz.out hPlt).cell 4
        have p5 : wz.cell? ⟨P, 5, none⟩ = some (.string s.room) := (HP0.out.below HB_wz.out hPlt).cell 5
        have q0 : wz.cell? ⟨g, k * 6 + 0, none⟩ = some (.string t.cls) := ((HB0.out.trans (HB_wz.out.mono hws)).cell (p := ⟨g, k * 6 + 0, none⟩) hgw).trans (HX.out.cell k 0 t _ HT.out (by decide) rfl)
        have q1 : wz.cell? ⟨g, k * 6 + 1, none⟩ = some (.int .i64 t.tim.weeks) := ((HB0.out.trans (HB_wz.out.mono hws)).cell (p := ⟨g, k * 6 + 1, none⟩) hgw).trans (HX.out.cell k 1 t _ HT.out (by decide) rfl)
        have q2 : wz.cell? ⟨g, k * 6 + 2, none⟩ = some (.int .i64 t.tim.day) := ((HB0.out.trans (HB_wz.out.mono hws)).cell (p := ⟨g, k * 6 + 2, none⟩) hgw).trans (HX.out.cell k 2 t _ HT.out (by decide) rfl)
        have q3 : wz.cell? ⟨g, k * 6 + 3, none⟩ = some (.int .i64 t.tim.start) := ((HB0.out.trans (HB_wz.out.mono hws)).cell (p := ⟨g, k * 6 + 3, none⟩) hgw).trans (HX.out.cell k 3 t _ HT.out (by decide) rfl)
        have q4 : wz.cell? ⟨g, k * 6 + 4, none⟩ = some (.int .i64 t.tim.len) := ((HB0.out.trans (HB_wz.out.mono hws)).cell (p := ⟨g, k * 6 + 4, none⟩) hgw).trans (HX.out.cell k 4 t _ HT.out (by decide) rfl)
        have q5 : wz.cell? ⟨g, k * 6 + 5, none⟩ = some (.string t.room) := ((HB0.out.trans (HB_wz.out.mono hws)).cell (p := ⟨g, k * 6 + 5, none⟩) hgw).trans (HX.out.cell k 5 t _ HT.out (by decide) rfl)
        have q0 : wz.cell? ⟨g, k * 6, none⟩ = some (.string t.cls) := q0
        cases eb
        · have HYL := Lib.hid hyl2; obtain ⟨pu, cu, hu⟩ := HY_wz.out.slice
          subst hu; go_wp2_with (at_builtin; refine wpList_append_own_at _ rfl (.tmp 41) (.tmp 46) 110 rfl w0.heap.size 107 i0 _ 6 64 Tryz.underlying110 hii hz0 hz1 hz2 rfl (by decide) _ _ _ rfl (World.ownsRow.alloc HY_wz.out _) ⟨wz.heap.size, 0, none⟩ 1 1 (sesCells t).toList rfl rfl (blk_cells (Blk.new wz (sesCells t) 107)) (sL_cell1 t) (by unfold maxLen; omega) (by omega) (by have := HB_wz.out.size; simp; omega) ?_)
          intro v8 x8 hown8 hgrow _ hat; have HB8 := Lib.hid (below_grownBy (HB_wz.out.trans ((below_box wz _).mono HB_wz.out.size)) (World.ownsRow.alloc HY_wz.out _) (Nat.le_refl _) (by have := HB_wz.out.size; simp; omega) hgrow)
          have HX8 := Lib.hid (show RowS w0.heap.size x8 v8 (ys ++ [t]) from RowS.snoc hown8)
          clear hown8 hgrow hat; clear p0 p1 p2 p3 p4 p5; clear q0 q1 q2 q3 q4 q5; go_wp2_with fail
          go_roundw
          case rel => exact ⟨k + 1, false, ys ++ [t], rfl, by go_num, by have := HLT.out; omega, by rw [List.length_append]; simp; have := HYL.out; first | omega | (simp at this; omega), HX8, HB8⟩
          case measure => simp [intOf]; omega
        · have HYL := Lib.hid hyl2; go_wp2_with fail
          go_roundw
          case rel => exact ⟨k + 1, false, ys, rfl, by go_num, by have := HLT.out; omega, by have := HYL.out; first | omega | (simp at this ⊢; omega), HY_wz, HB_wz⟩
          case measure => simp [intOf]; omega
      · go_wp2_with fail
        go_quiet (fail)
        obtain ⟨wy, hq⟩ : ∃ X, X = wr.drewN nq := ⟨_, rfl⟩
        have HY_wy := Lib.hid (show RowS w0.heap.size wy _ (ys) from by rw [hq]; exact HY.out)
        have HB_wy := Lib.hid (show Below w0.heap.size w0 wy from by rw [hq]; exact HB.out.trans ⟨rfl, rfl, rfl, Nat.le_refl _, fun k hk => rfl⟩)
        rw [← hq]; clear hq nq; clear p0 p1 p2 p3 p4 p5; clear q0 q1 q2 q3 q4 q5; have p0 : wy.cell? ⟨P, 0, none⟩ = some (.string s.cls) := (HP0.out.below HB_wy.out hPlt).cell 0
        have p1 : wy.cell? ⟨P, 1, none⟩ = some (.int .i64 s.tim.weeks) := (HP0.out.below HB_wy.out hPlt).cell 1
        have p2 : wy.cell? ⟨P, 2, none⟩ = some (.int .i64 s.tim.day) := (HP0.out.below HB_wy.out hPlt).cell 2
        have p3 : wy.cell? ⟨P, 3, none⟩ = some (.int .i64 s.tim.start) := (HP0.out.below HB_wy.out hPlt).cell 3
        have p4 : wy.cell? ⟨P, 4, none⟩ = some (.int .i64 s.tim.len) := (HP0.out.below HB_wy.out hPlt).cell 4
        have p5 : wy.cell? ⟨P, 5, none⟩ = some (.string s.room) := (HP0.out.below HB_wy.out hPlt).cell 5
        obtain ⟨pu, cu, hu⟩ := HY_wy.out.slice
        subst hu; go_wp2_with (at_builtin; refine wpList_append_own_at _ rfl (.tmp 29) (.tmp 31) 110 rfl w0.heap.size 107 i0 _ 6 64 Tryz.underlying110 hii hz0 hz1 hz2 rfl (by decide) _ _ _ rfl (World.ownsRow.alloc HY_wy.out _) ⟨wy.heap.size, 0, none⟩ 1 1 (sesCells s).toList rfl rfl (blk_cells (Blk.new wy (sesCells s) 107)) (sL_cell1 s) (by unfold maxLen; omega) (by omega) (by have := HB_wy.out.size; simp; omega) ?_)
        intro v8 x8 hown8 hgrow _ hat; have HB8 := Lib.hid (below_grownBy (HB_wy.out.trans ((below_box wy _).mono HB_wy.out.size)) (World.ownsRow.alloc HY_wy.out _) (Nat.le_refl _) (by have := HB_wy.out.size; simp; omega) hgrow)
        have HX8 := Lib.hid (show RowS w0.heap.size x8 v8 (ys ++ [s]) from RowS.snoc hown8)
        clear hown8 hgrow hat; clear p0 p1 p2 p3 p4 p5; have hyl3 : (ys ++ [s]).length ≤ k + 1 := by rw [List.length_append]; simp; omega
        clear hyl2; obtain ⟨zs, hzs⟩ : ∃ z, z = ys ++ [s] := ⟨_, rfl⟩
        rw [← hzs] at HX8 hyl3
        clear hzs; have hyl2 := hyl3; clear hyl3; have p0 : x8.cell? ⟨P, 0, none⟩ = some (.string s.cls) := (HP0.out.below HB8.out hPlt).cell 0
        have p1 : x8.cell? ⟨P, 1, none⟩ = some (.int .i64 s.tim.weeks) := (HP0.out.below HB8.out hPlt).cell 1
        have p2 : x8.cell? ⟨P, 2, none⟩ = some (.int .i64 s.tim.day) := (HP0.out.below HB8.out hPlt).cell 2
        have p3 : x8.cell? ⟨P, 3, none⟩ = some (.int .i64 s.tim.start) := (HP0.out.below HB8.out hPlt).cell 3
        have p4 : x8.cell? ⟨P, 4, none⟩ = some (.int .i64 s.tim.len) := (HP0.out.below HB8.out hPlt).cell 4
        have p5 : x8.cell? ⟨P, 5, none⟩ = some (.string s.room) := (HP0.out.below HB8.out hPlt).cell 5
        have q0 : x8.cell? ⟨g, k * 6 + 0, none⟩ = some (.string t.cls) := ((HB0.out.trans (HB8.out.mono hws)).cell (p := ⟨g, k * 6 + 0, none⟩) hgw).trans (HX.out.cell k 0 t _ HT.out (by decide) rfl)
        have q1 : x8.cell? ⟨g, k * 6 + 1, none⟩ = some (.int .i64 t.tim.weeks) := ((HB0.out.trans (HB8.out.mono hws)).cell (p := ⟨g, k * 6 + 1, none⟩) hgw).trans (HX.out.cell k 1 t _ HT.out (by decide) rfl)
        have q2 : x8.cell? ⟨g, k * 6 + 2, none⟩ = some (.int .i64 t.tim.day) := ((HB0.out.trans (HB8.out.mono hws)).cell (p := ⟨g, k * 6 + 2, none⟩) hgw).trans (HX.out.cell k 2 t _ HT.out (by decide) rfl)
        have q3 : x8.cell? ⟨g, k * 6 + 3, none⟩ = some (.int .i64 t.tim.start) := ((HB0.out.trans (HB8.out.mono hws)).cell (p := ⟨g, k * 6 + 3, none⟩) hgw).trans (HX.out.cell k 3 t _ HT.out (by decide) rfl)
        have q4 : x8.cell? ⟨g, k * 6 + 4, none⟩ = some (.int .i64 t.tim.len) := ((HB0.out.trans (HB8.out.mono hws)).cell (p := ⟨g, k * 6 + 4, none⟩) hgw).trans (HX.out.cell k 4 t _ HT.out (by decide) rfl)
        have q5 : x8.cell? ⟨g, k * 6 + 5, none⟩ = some (.string t.room) := ((HB0.out.trans (HB8.out.mono hws)).cell (p := ⟨g, k * 6 + 5, none⟩) hgw).trans (HX.out.cell k 5 t _ HT.out (by decide) rfl)
        have q0 : x8.cell? ⟨g, k * 6, none⟩ = some (.string t.cls) := q0
        go_wp2_with fail
        go_quiet (fail)
        obtain ⟨wz, hq⟩ : ∃ X, X = x8.drewN nq := ⟨_, rfl⟩
        have HY_wz := Lib.hid (show RowS w0.heap.size wz _ (zs) from by rw [hq]; exact HX8.out)
        have HB_wz := Lib.hid (show Below w0.heap.size w0 wz from by rw [hq]; exact HB8.out.trans ⟨rfl, rfl, rfl, Nat.le_refl _, fun k hk => rfl⟩)
        rw [← hq]; clear hq nq; clear p0 p1 p2 p3 p4 p5; clear q0 q1 q2 q3 q4 q5; have p0 : wz.cell? ⟨P, 0, none⟩ = some (.string s.cls) := (HP0.out.below HB_wz.out hPlt).cell 0
        have p1 : wz.cell? ⟨P, 1, none⟩ = some (.int .i64 s.tim.weeks) := (HP0.out.below HB_wz.out hPlt).cell 1
        have p2 : wz.cell? ⟨P, 2, none⟩ = some (.int .i64 s.tim.day) := (HP0.out.below HB_wz.out hPlt).cell 2
        have p3 : wz.cell? ⟨P, 3, none⟩ = some (.int .i64 s.tim.start) := (HP0.out.below HB_wz.out hPlt).cell 3
        have p4 : wz.cell? ⟨P, 4, none⟩ = some (.int .i64 s.tim.len) := (HP0.out.below HB_wz.out hPlt).cell 4
        have p5 : wz.cell? ⟨P, 5, none⟩ = some (.string s.room) := (HP0.out.below HB_wz.out hPlt).cell 5
        have q0 : wz.cell? ⟨g, k * 6 + 0, none⟩ = some (.string t.cls) := ((HB0.out.trans (HB_wz.out.mono hws)).cell (p := ⟨g, k * 6 + 0, none⟩) hgw).trans (HX.out.cell k 0 t _ HT.out (by decide) rfl)
        have q1 : wz.cell? ⟨g, k * 6 + 1, none⟩ = some (.int .i64 t.tim.weeks) := ((HB0.out.trans (HB_wz.out.mono hws)).cell (p := ⟨g, k * 6 + 1, none⟩) hgw).trans (HX.out.cell k 1 t _ HT.out (by decide) rfl)
        have q2 : wz.cell? ⟨g, k * 6 + 2, none⟩ = some (.int .i64 t.tim.day) := ((HB0.out.trans (HB_wz.out.mono hws)).cell (p := ⟨g, k * 6 + 2, none⟩) hgw).trans (HX.out.cell k 2 t _ HT.out (by decide) rfl)
        have q3 : wz.cell? ⟨g, k * 6 + 3, none⟩ = some (.int .i64 t.tim.start) := ((HB0.out.trans (HB_wz.out.mono hws)).cell (p := ⟨g, k * 6 + 3, none⟩) hgw).trans (HX.out.cell k 3 t _ HT.out (by decide) rfl)
        have q4 : wz.cell? ⟨g, k * 6 + 4, none⟩ = some (.int .i64 t.tim.len) := ((HB0.out.trans (HB_wz.out.mono hws)).cell (p := ⟨g, k * 6 + 4, none⟩) hgw).trans (HX.out.cell k 4 t _ HT.out (by decide) rfl)
        have q5 : wz.cell? ⟨g, k * 6 + 5, none⟩ = some (.string t.room) := ((HB0.out.trans (HB_wz.out.mono hws)).cell (p := ⟨g, k * 6 + 5, none⟩) hgw).trans (HX.out.cell k 5 t _ HT.out (by decide) rfl)
        have q0 : wz.cell? ⟨g, k * 6, none⟩ = some (.string t.cls) := q0
        cases eb
        · have HYL := Lib.hid hyl2; obtain ⟨pu, cu, hu⟩ := HY_wz.out.slice
          subst hu; go_wp2_with (at_builtin; refine wpList_append_own_at _ rfl (.tmp 41) (.tmp 46) 110 rfl w0.heap.size 107 i0 _ 6 64 Tryz.underlying110 hii hz0 hz1 hz2 rfl (by decide) _ _ _ rfl (World.ownsRow.alloc HY_wz.out _) ⟨wz.heap.size, 0, none⟩ 1 1 (sesCells t).toList rfl rfl (blk_cells (Blk.new wz (sesCells t) 107)) (sL_cell1 t) (by unfold maxLen; omega) (by omega) (by have := HB_wz.out.size; simp; omega) ?_)
          intro v8 x8 hown8 hgrow _ hat; have HB8 := Lib.hid (below_grownBy (HB_wz.out.trans ((below_box wz _).mono HB_wz.out.size)) (World.ownsRow.alloc HY_wz.out _) (Nat.le_refl _) (by have := HB_wz.out.size; simp; omega) hgrow)
          have HX8 := Lib.hid (show RowS w0.heap.size x8 v8 (zs ++ [t]) from RowS.snoc hown8)
          clear hown8 hgrow hat; clear p0 p1 p2 p3 p4 p5; clear q0 q1 q2 q3 q4 q5; go_wp2_with fail
          go_roundw
          case rel => exact ⟨k + 1, true, zs ++ [t], rfl, by go_num, by have := HLT.out; omega, by rw [List.length_append]; simp; have := HYL.out; first | omega | (simp at this; omega), HX8, HB8⟩
          case measure => simp [intOf]; omega
        · have HYL := Lib.hid hyl2; go_wp2_with fail
          go_roundw
          case rel => exact ⟨k + 1, true, zs, rfl, by go_num, by have := HLT.out; omega, by have := HYL.out; first | omega | (simp at this ⊢; omega), HY_wz, HB_wz⟩
          case measure => simp [intOf]; omega
end Go.Proofs.YtageielcdebjlaaGreatDoor
