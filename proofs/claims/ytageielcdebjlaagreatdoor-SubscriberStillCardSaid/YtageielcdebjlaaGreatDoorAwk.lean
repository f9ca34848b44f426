/- The law's awake: its contract: true. -/
import Derived.Test.YtageielcdebjlaaGreatDoorPk21
import Derived.Test.YtageielcdebjlaaGreatDoorMerge26
namespace Go.Proofs.YtageielcdebjlaaGreatDoor
open Go.RowKit

/-- The event of the sanity check. -/
def e0 : Ev := ⟨⟨#[99, 64, 49]⟩, 1, false, ⟨2, 2, 1, 1, [], []⟩, 0, 45, ⟨#[99]⟩, ⟨#[]⟩⟩
theorem valid0 : evsV 1 none [e0] = 0 := by kernel_rfl
theorem feed0 : feedV ⟨#[120]⟩ 1 [e0] = 0 := by kernel_rfl
theorem rd0 : rdOk 0 [] = true := by decide
theorem rd1 : rdOk 1 [e0] = true := by unfold rdOk; rw [valid0]; decide
theorem mrg0 : mrg [] [e0] = ([e0], [⟨1, e0.uid, 1⟩]) := by kernel_rfl
theorem merge0 : mergeV 0 0 [] ⟨#[120]⟩ 1 [e0] = (1, 0, [e0], [⟨1, e0.uid, 1⟩], 0) := by
  unfold mergeV
  rw [if_neg (by rw [rd0]; simp), if_neg (by rw [feed0]; simp), if_neg (by decide), mrg0]
  rfl
theorem merge1 : mergeV 1 0 [e0] ⟨#[120]⟩ 1 [e0] = (1, 0, [e0], [], 0) := by
  unfold mergeV
  rw [if_neg (by rw [rd1]; simp), if_neg (by rw [feed0]; simp), if_pos (by decide)]
theorem starts0 : startsV (Tt.code (⟨#[122]⟩ : ByteArray).data.toList) 60 [] e0 = ([2820], 0) := by kernel_rfl
theorem zone0 : Tt.zoneV (Tt.code (⟨#[122]⟩ : ByteArray).data.toList) 60 [] = 0 := by kernel_rfl
theorem shown0 : shownV 1 [e0] = [e0] := by unfold shownV; rw [if_pos rd1]; rfl
theorem run0 : agRun (Tt.code (⟨#[122]⟩ : ByteArray).data.toList) 60 [] 0 9999 [e0] [] = ([⟨2820, 45, e0.uid⟩], 0) := by
  unfold agRun
  rw [starts0, if_neg (by simp)]
  rfl
theorem agenda0 : agendaV 1 [e0] (Tt.code (⟨#[122]⟩ : ByteArray).data.toList) 60 [] 0 9999 = ([⟨2820, 45, e0.uid⟩], 0) := by
  unfold agendaV
  rw [if_neg (by rw [rd1]; simp), shown0, run0, if_neg (by simp), zone0, if_neg (by simp)]

theorem evb0 : EvB e0 := ⟨by decide, by decide, by decide, by decide, by decide⟩
theorem one_of {us : List (Ev × Value × Value)} {e : Ev} (h : us.map (·.1) = [e]) : ∃ a b, us = [(e, a, b)] := by
  match us, h with
  | [(x, a, b)], h => simp at h; exact ⟨a, b, by rw [h]⟩
/-- A reader's or a feed's single event in a row of its own. -/
theorem RowT.seg1 {lo : Nat} {w : World} {pu : Option Addr} {cu : Nat} {t : Ev × Value × Value} (h : RowT lo w (.slice pu 1 cu) [t]) : Seg w.heap.size w pu [t] := by
  obtain ⟨ao, c, h1, _, h3⟩ := h.seg
  simp only [Value.slice.injEq] at h1
  obtain ⟨rfl, -, rfl⟩ := h1
  exact h3

set_option maxHeartbeats 8000000 in
set_option maxRecDepth 100000 in
theorem awake17 (w : World) : Calls Tryz.prog 17 #[] w fun e w' => e = .returned (.bool true) ∧ Below w.heap.size w w' := by
  obtain ⟨w1, hw1⟩ : ∃ w1, w1 = (w.alloc (.cells #[.string ⟨#[99, 64, 49]⟩, .int .i64 1, .bool false, .int .i64 2, .int .i64 2, .int .i64 1, .int .i64 1, .slice none 0 0, .slice none 0 0, .int .i64 0, .int .i64 45, .string ⟨#[99]⟩, .string ⟨#[]⟩] 82)).alloc (.cells #[.string ⟨#[120]⟩, .int .i64 1, .slice (some ⟨w.heap.size, 0, none⟩) 1 1] 26) := ⟨_, rfl⟩
  have HA := Lib.hid (show Blk w.heap.size (evCells e0 (.slice none 0 0) (.slice none 0 0)) 82 w1 from by rw [hw1]; exact (Blk.new w _ _).alloc _)
  have HF := Lib.hid (show Blk (w.heap.size + 1) #[.string ⟨#[120]⟩, .int .i64 1, .slice (some ⟨w.heap.size, 0, none⟩) 1 1] 26 w1 from by rw [hw1]; exact Blk.new' (g := w.heap.size + 1) _ _ _ (by simp))
  have HL := Lib.hid (show Below w.heap.size w w1 from by rw [hw1]; exact (below_box w _).alloc (by simp) _)
  have HSg := Lib.hid (show Seg w1.heap.size w1 (some ⟨w.heap.size, 0, none⟩) [(e0, .slice none 0 0, .slice none 0 0)] from ⟨.inr ⟨w.heap.size, 0, rfl, HA.out.lt, fun j u hj => by
    rw [tCells_sole] at hj
    rw [Nat.zero_add, HA.out.cell]
    simpa using hj⟩, fun t ht => by
    rw [List.mem_singleton.1 ht]
    exact ⟨evb0, ⟨none, 0, rfl, fun j x h => by simp [e0] at h⟩, ⟨none, 0, rfl, fun j x h => by simp [e0] at h⟩⟩⟩)
  have HLS : Hid (∀ t ∈ [(e0, Value.slice none 0 0, Value.slice none 0 0)], t.1.days.ex.length ≤ 1000000 ∧ t.1.days.xt.length ≤ 1000000) := Lib.hid (fun t ht => by rw [List.mem_singleton.1 ht]; decide)
  have HM1 : Hid (Calls Tryz.prog 26 #[.agg #[.int .i64 0, .int .i64 0, .slice none 0 0], .agg #[.string ⟨#[120]⟩, .int .i64 1, .slice (some ⟨w.heap.size, 0, none⟩) 1 1]] w1 (Merged 0 0 [] ⟨#[120]⟩ 1 [e0] w1)) := Lib.hid (merge26 0 0 none 0 [] ⟨#[120]⟩ 1 (some ⟨w.heap.size, 0, none⟩) 1 [(e0, .slice none 0 0, .slice none 0 0)] w1 (Seg.nil _ _ _) HSg.out (by decide) (by decide) (fun t h => by cases h) HLS.out)
  go_enter Tryz.func17, Tryz.ntmps17
  go_upto_region 2 with (fail)
  rw [← hw1]
  clear hw1
  have f0 : w1.cell? ⟨w.heap.size + 1, 0, none⟩ = some (.string ⟨#[120]⟩) := HF.out.cell 0
  have f1 : w1.cell? ⟨w.heap.size + 1, 1, none⟩ = some (.int .i64 1) := HF.out.cell 1
  have f2 : w1.cell? ⟨w.heap.size + 1, 2, none⟩ = some (.slice (some ⟨w.heap.size, 0, none⟩) 1 1) := HF.out.cell 2
  go_wp2_with fail
  refine HM1.out.mono ?_
  rintro x w2 ⟨v', tag', c, pu, cu, us, pn, cn, ns, rfl, hv, hT, hN, hb⟩
  rw [merge0] at hv
  simp only [Prod.mk.injEq] at hv
  obtain ⟨rfl, rfl, hus, rfl, rfl⟩ := hv
  obtain ⟨a, b, rfl⟩ := one_of hus
  have hT : RowT w1.heap.size w2 (.slice pu 1 cu) [(e0, a, b)] := hT
  have hN : RowN w1.heap.size w2 (.slice pn 1 cn) [⟨1, e0.uid, 1⟩] := hN
  obtain ⟨w3, hw3⟩ : ∃ w3, w3 = w2.alloc (.cells #[.int .i64 1, .int .i64 0, .slice pu 1 cu] 24) := ⟨_, rfl⟩
  obtain ⟨R, hR⟩ : ∃ R, R = w2.heap.size := ⟨_, rfl⟩
  have HR3 := Lib.hid (show Blk R #[.int .i64 1, .int .i64 0, .slice pu 1 cu] 24 w3 from by rw [hw3, hR]; exact Blk.new w2 _ _)
  have HT3 := Lib.hid (show RowT w1.heap.size w3 (.slice pu 1 cu) [(e0, a, b)] from by rw [hw3]; exact hT.alloc _)
  have HN3 := Lib.hid (show RowN w1.heap.size w3 (.slice pn 1 cn) [⟨1, e0.uid, 1⟩] from by rw [hw3]; exact World.ownsRow.alloc hN _)
  have HB3 := Lib.hid (show Below w1.heap.size w1 w3 from by rw [hw3]; exact hb.alloc hb.size _)
  clear hus hT hN hb f0 f1 f2 HM1
  go_upto_region 3 with (fail)
  rw [← hw3, ← hR]
  clear hw3 hR
  have hs3 := HB3.out.size
  have HF3 := Lib.hid (HF.out.below HB3.out HF.out.lt)
  have HSg3 := Lib.hid ((HSg.out.below HB3.out).mono hs3)
  have HM2 : Hid (Calls Tryz.prog 26 #[.agg #[.int .i64 1, .int .i64 0, .slice pu 1 cu], .agg #[.string ⟨#[120]⟩, .int .i64 1, .slice (some ⟨w.heap.size, 0, none⟩) 1 1]] w3 (Merged 1 0 [e0] ⟨#[120]⟩ 1 [e0] w3)) := Lib.hid (merge26 1 0 pu cu [(e0, a, b)] ⟨#[120]⟩ 1 (some ⟨w.heap.size, 0, none⟩) 1 [(e0, .slice none 0 0, .slice none 0 0)] w3 HT3.out.seg1 HSg3.out (show 1 ≤ 1000000000 by decide) (by decide) (fun t ht => by rw [List.mem_singleton.1 ht]; exact ⟨Nat.zero_le _, Nat.zero_le _⟩) HLS.out)
  have f0 : w3.cell? ⟨w.heap.size + 1, 0, none⟩ = some (.string ⟨#[120]⟩) := HF3.out.cell 0
  have f1 : w3.cell? ⟨w.heap.size + 1, 1, none⟩ = some (.int .i64 1) := HF3.out.cell 1
  have f2 : w3.cell? ⟨w.heap.size + 1, 2, none⟩ = some (.slice (some ⟨w.heap.size, 0, none⟩) 1 1) := HF3.out.cell 2
  have r0 : w3.cell? ⟨R, 0, none⟩ = some (.int .i64 1) := HR3.out.cell 0
  have r1 : w3.cell? ⟨R, 1, none⟩ = some (.int .i64 0) := HR3.out.cell 1
  have r2 : w3.cell? ⟨R, 2, none⟩ = some (.slice pu 1 cu) := HR3.out.cell 2
  go_wp2_with fail
  refine HM2.out.mono ?_
  rintro x w4 ⟨v', tag', c, pu2, cu2, us, pn2, cn2, ns, rfl, hv, hT, hN, hb⟩
  rw [merge1] at hv
  simp only [Prod.mk.injEq] at hv
  obtain ⟨rfl, rfl, hus, rfl, rfl⟩ := hv
  obtain ⟨a2, b2, rfl⟩ := one_of hus
  have hT : RowT w3.heap.size w4 (.slice pu2 1 cu2) [(e0, a2, b2)] := hT
  obtain ⟨w5, hw5⟩ : ∃ w5, w5 = w4.alloc (.cells #[.int .i64 1, .int .i64 0, .slice pu2 1 cu2] 24) := ⟨_, rfl⟩
  obtain ⟨R2, hR2⟩ : ∃ R2, R2 = w4.heap.size := ⟨_, rfl⟩
  have HR5 := Lib.hid (show Blk R2 #[.int .i64 1, .int .i64 0, .slice pu2 1 cu2] 24 w5 from by rw [hw5, hR2]; exact Blk.new w4 _ _)
  have HT5 := Lib.hid (show RowT w3.heap.size w5 (.slice pu2 1 cu2) [(e0, a2, b2)] from by rw [hw5]; exact hT.alloc _)
  have HB5 := Lib.hid (show Below w3.heap.size w3 w5 from by rw [hw5]; exact hb.alloc hb.size _)
  have HN5 := Lib.hid (show RowN w1.heap.size w5 (.slice pn 1 cn) [⟨1, e0.uid, 1⟩] from row_made HN3.out HB5.out)
  clear hus hT hN hb f0 f1 f2 r0 r1 r2 HM2
  go_upto_region 4 with (fail)
  rw [← hw5, ← hR2]
  clear hw5 hR2
  have HAG : Hid (Calls Tryz.prog 32 #[.agg #[.int .i64 1, .int .i64 0, .slice pu2 1 cu2], .agg #[.string ⟨#[122]⟩, .int .i64 60, .slice none 0 0], .int .i64 0, .int .i64 9999] w5 fun x w' => ∃ (pa : Option Addr) (ca : Nat) (l : List Ent) (c : Int), x = .returned (.tuple #[.slice pa l.length ca, .int .i64 c]) ∧ (l, c) = agendaV 1 [e0] (Tt.code (⟨#[122]⟩ : ByteArray).data.toList) 60 [] 0 9999 ∧ RowA w5.heap.size w' (.slice pa l.length ca) l ∧ Below w5.heap.size w5 w') := Lib.hid (agenda32 1 0 pu2 cu2 [(e0, a2, b2)] ⟨#[122]⟩ 60 none 0 [] 0 9999 w5 HT5.out.seg1 (.inl rfl) (show 1 ≤ 1000000 by decide) (by decide) (fun t ht => by rw [List.mem_singleton.1 ht]; exact ⟨Nat.zero_le _, Nat.zero_le _⟩) (by show (shownV 1 [e0]).length ≤ 1; rw [shown0]; decide) (by show ∀ e ∈ shownV 1 [e0], _; rw [shown0]; intro e he; rw [List.mem_singleton.1 he, starts0]; decide))
  have r0 : w5.cell? ⟨R2, 0, none⟩ = some (.int .i64 1) := HR5.out.cell 0
  have r1 : w5.cell? ⟨R2, 1, none⟩ = some (.int .i64 0) := HR5.out.cell 1
  have r2 : w5.cell? ⟨R2, 2, none⟩ = some (.slice pu2 1 cu2) := HR5.out.cell 2
  go_wp2_with fail
  refine HAG.out.mono ?_
  rintro x w6 ⟨pa, ca, l, c, rfl, hl, hA, hb6⟩
  rw [agenda0] at hl
  simp only [Prod.mk.injEq] at hl
  obtain ⟨rfl, rfl⟩ := hl
  have HA6 := Lib.hid (show RowA w5.heap.size w6 (.slice pa 1 ca) [⟨2820, 45, e0.uid⟩] from hA)
  have HN6 := Lib.hid (show RowN w1.heap.size w6 (.slice pn 1 cn) [⟨1, e0.uid, 1⟩] from row_made HN5.out hb6)
  have HT6 := Lib.hid (HT5.out.made hb6)
  have HR6 := Lib.hid (HR5.out.below hb6 HR5.out.lt)
  have HL6 := Lib.hid (HL.out.trans (HB3.out.mono HL.out.size |>.trans ((HB5.out.mono (Nat.le_trans HL.out.size hs3)).trans (hb6.mono (Nat.le_trans HL.out.size (Nat.le_trans hs3 HB5.out.size))))))
  clear hA hb6 r0 r1 r2 HAG
  obtain ⟨ga, hpa, hca⟩ : ∃ g, pa = some ⟨g, 0, none⟩ ∧ w6.cell? ⟨g, 0, none⟩ = some (.int .i64 2820) := by
    rcases (show w6.ownsRow w5.heap.size 57 3 (.slice pa 1 ca) 1 _ from HA6.out).2 with ⟨h1, h0⟩ | ⟨g, cap, cur, hv, _⟩
    · cases h0
    · simp only [Value.slice.injEq] at hv
      have h := World.ownsRow.cells (show w6.ownsRow w5.heap.size 57 3 (.slice pa 1 ca) 1 _ from HA6.out) (g := g) (by rw [hv.1]; rfl) 0 (.int .i64 2820) rfl
      rw [Addr.add_lit] at h
      exact ⟨g, hv.1, h⟩
  obtain ⟨gn, hpn, hcn⟩ : ∃ g, pn = some ⟨g, 0, none⟩ ∧ w6.cell? ⟨g, 0, none⟩ = some (.int .i64 1) := by
    rcases (show w6.ownsRow w1.heap.size 99 3 (.slice pn 1 cn) 1 _ from HN6.out).2 with ⟨h1, h0⟩ | ⟨g, cap, cur, hv, _⟩
    · cases h0
    · simp only [Value.slice.injEq] at hv
      have h := World.ownsRow.cells (show w6.ownsRow w1.heap.size 99 3 (.slice pn 1 cn) 1 _ from HN6.out) (g := g) (by rw [hv.1]; rfl) 0 (.int .i64 1) rfl
      rw [Addr.add_lit] at h
      exact ⟨g, hv.1, h⟩
  subst hpa
  subst hpn
  have HSH : Hid (Calls Tryz.prog 64 #[.agg #[.int .i64 1, .int .i64 0, .slice pu2 1 cu2]] w6 fun x w' => ∃ (pu : Option Addr) (cu : Nat) (ts : List (Ev × Value × Value)), x = .returned (.slice pu ts.length cu) ∧ ts.map (·.1) = shownV 1 [e0] ∧ RowT w6.heap.size w' (.slice pu ts.length cu) ts ∧ Below w6.heap.size w6 w') := Lib.hid (shown64 1 0 pu2 cu2 [(e0, a2, b2)] w6 HT6.out.seg1 (show 1 ≤ 1000000 by decide) (fun t ht => by rw [List.mem_singleton.1 ht]; exact ⟨Nat.zero_le _, Nat.zero_le _⟩))
  have r0 : w6.cell? ⟨R2, 0, none⟩ = some (.int .i64 1) := HR6.out.cell 0
  have r1 : w6.cell? ⟨R2, 1, none⟩ = some (.int .i64 0) := HR6.out.cell 1
  have r2 : w6.cell? ⟨R2, 2, none⟩ = some (.slice pu2 1 cu2) := HR6.out.cell 2
  go_wp2_with fail
  refine HSH.out.mono ?_
  rintro x w7 ⟨pu7, cu7, us7, rfl, hus, -, hb7⟩
  rw [shown0] at hus
  obtain ⟨a7, b7, rfl⟩ := one_of hus
  have hca7 : w7.cell? ⟨ga, 0, none⟩ = some (.int .i64 2820) := (hb7.cell (p := ⟨ga, 0, none⟩) (block_lt_of_cell hca)).trans hca
  have HL7 := Lib.hid (HL6.out.trans (hb7.mono HL6.out.size))
  clear hus hb7 hca hcn r0 r1 r2 HSH
  go_wp2_with fail
  go_ret
  exact ⟨rfl, HL7.out⟩
end Go.Proofs.YtageielcdebjlaaGreatDoor
