/- The law's awake: its contract: true. Plain facts: a drawn feed is valid; what merging makes of a valid feed in a reader without events, and of a feed that is not newer. No function of the program in sight. Condition: none. What a local time within the bounds means in a valid zone: an instant, at which clocks show it unless they skip it. No program in sight. Plain facts for the agenda of a drawn feed in a valid zone: every shown event has its starts, in ascending order. No function of the program in sight. A reader's and a feed's events in memory. No function of the program in sight. Condition: none. -/
import Derived.Test.YtageielcdebjlaaGreatDoorPk21
import Derived.Test.YtageielcdebjlaaGreatDoorMerge26
import Derived.Test.YtageielcdebjlaaGreatDoorPk22
import Derived.Test.YtageielcdebjlaaGreatDoorGenF
import Derived.Test.YtageielcdebjlaaGreatDoorPk14
import Derived.Test.YtageielcdebjlaaGreatDoorRowT
namespace Go.Proofs.YtageielcdebjlaaGreatDoor
open Go.RowKit

/-- The event of the sanity check. -/
def e0 : Ev := ⟨⟨#[99, 64, 49]⟩, 1, false, ⟨2, 2, 1, 1, [], []⟩, 0, 45, ⟨#[99]⟩, ⟨#[]⟩⟩
theorem valid0 : evsV 1 none [e0] = 0 := by kernel_rfl
theorem feed0 : feedV ⟨#[120]⟩ 1 [e0] = 0 := by kernel_rfl
theorem rd0 : rdOk 0 [] = true := by decide
theorem rd1 : rdOk 1 [e0] = true := by unfold rdOk; rw [valid0]; decide
theorem mrg0 : mrg [] [e0] = ([e0], [⟨1, e0.uid, 1⟩]) := by kernel_rfl
theorem merge0 : mergeV 0 0 [] ⟨#[120]⟩ 1 [e0] = (1, 0, [e0], [⟨1, e0.uid, 1⟩], 0) := by
  unfold mergeV
  rw [if_neg (by rw [rd0]; simp), if_neg (by rw [feed0]; simp), if_neg (by decide), mrg0]
  rfl
theorem merge1 : mergeV 1 0 [e0] ⟨#[120]⟩ 1 [e0] = (1, 0, [e0], [], 0) := by
  unfold mergeV
  rw [if_neg (by rw [rd1]; simp), if_neg (by rw [feed0]; simp), if_pos (by decide)]
theorem starts0 : startsV (Tt.code (⟨#[122]⟩ : ByteArray).data.toList) 60 [] e0 = ([2820], 0) := by kernel_rfl
theorem zone0 : Tt.zoneV (Tt.code (⟨#[122]⟩ : ByteArray).data.toList) 60 [] = 0 := by kernel_rfl
theorem shown0 : shownV 1 [e0] = [e0] := by unfold shownV; rw [if_pos rd1]; rfl
theorem run0 : agRun (Tt.code (⟨#[122]⟩ : ByteArray).data.toList) 60 [] 0 9999 [e0] [] = ([⟨2820, 45, e0.uid⟩], 0) := by
  unfold agRun
  rw [starts0, if_neg (by simp)]
  rfl
theorem agenda0 : agendaV 1 [e0] (Tt.code (⟨#[122]⟩ : ByteArray).data.toList) 60 [] 0 9999 = ([⟨2820, 45, e0.uid⟩], 0) := by
  unfold agendaV
  rw [if_neg (by rw [rd1]; simp), shown0, run0, if_neg (by simp), zone0, if_neg (by simp)]

theorem evb0 : EvB e0 := ⟨by decide, by decide, by decide, by decide, by decide⟩
theorem one_of {us : List (Ev × Value × Value)} {e : Ev} (h : us.map (·.1) = [e]) : ∃ a b, us = [(e, a, b)] := by
  match us, h with
  | [(x, a, b)], h => simp at h; exact ⟨a, b, by rw [h]⟩
/-- A reader's or a feed's single event in a row of its own. -/
theorem RowT.seg1 {lo : Nat} {w : World} {pu : Option Addr} {cu : Nat} {t : Ev × Value × Value} (h : RowT lo w (.slice pu 1 cu) [t]) : Seg w.heap.size w pu [t] := by
  obtain ⟨ao, c, h1, _, h3⟩ := h.seg
  simp only [Value.slice.injEq] at h1
  obtain ⟨rfl, -, rfl⟩ := h1; exact h3

set_option maxHeartbeats 8000000 in
set_option maxRecDepth 100000 in
theorem awake17 (w : World) : Calls Tryz.prog 17 #[] w fun e w' => e = .returned (.bool true) ∧ Below w.heap.size w w' := by
  obtain ⟨w1, hw1⟩ : ∃ w1, w1 = (w.alloc (.cells #[.string ⟨#[99, 64, 49]⟩, .int .i64 1, .bool false, .int .i64 2, .int .i64 2, .int .i64 1, .int .i64 1, .slice none 0 0, .slice none 0 0, .int .i64 0, .int .i64 45, .string ⟨#[99]⟩, .string ⟨#[]⟩] 82)).alloc (.cells #[.string ⟨#[120]⟩, .int .i64 1, .slice (some ⟨w.heap.size, 0, none⟩) 1 1] 26) := ⟨_, rfl⟩
  have HA := Lib.hid (show Blk w.heap.size (evCells e0 (.slice none 0 0) (.slice none 0 0)) 82 w1 from by rw [hw1]; exact (Blk.new w _ _).alloc _)
  have HF := Lib.hid (show Blk (w.heap.size + 1) #[.string ⟨#[120]⟩, .int .i64 1, .slice (some ⟨w.heap.size, 0, none⟩) 1 1] 26 w1 from by rw [hw1]; exact Blk.new' (g := w.heap.size + 1) _ _ _ (by simp))
  have HL := Lib.hid (show Below w.heap.size w w1 from by rw [hw1]; exact (below_box w _).alloc (by simp) _)
  have HSg := Lib.hid (show Seg w1.heap.size w1 (some ⟨w.heap.size, 0, none⟩) [(e0, .slice none 0 0, .slice none 0 0)] from ⟨.inr ⟨w.heap.size, 0, rfl, HA.out.lt, fun j u hj => by
    rw [tCells_sole] at hj
    rw [Nat.zero_add, HA.out.cell]
    simpa using hj⟩, fun t ht => by
    rw [List.mem_singleton.1 ht]
    exact ⟨evb0, ⟨none, 0, rfl, fun j x h => by simp [e0] at h⟩, ⟨none, 0, rfl, fun j x h => by simp [e0] at h⟩⟩⟩)
  have HLS : Hid (∀ t ∈ [(e0, Value.slice none 0 0, Value.slice none 0 0)], t.1.days.ex.length ≤ 1000000 ∧ t.1.days.xt.length ≤ 1000000) := Lib.hid (fun t ht => by rw [List.mem_singleton.1 ht]; decide)
  have HM1 : Hid (Calls Tryz.prog 26 #[.agg #[.int .i64 0, .int .i64 0, .slice none 0 0], .agg #[.string ⟨#[120]⟩, .int .i64 1, .slice (some ⟨w.heap.size, 0, none⟩) 1 1]] w1 (Merged 0 0 [] ⟨#[120]⟩ 1 [e0] w1)) := Lib.hid (merge26 0 0 none 0 [] ⟨#[120]⟩ 1 (some ⟨w.heap.size, 0, none⟩) 1 [(e0, .slice none 0 0, .slice none 0 0)] w1 (Seg.nil _ _ _) HSg.out (by decide) (by decide) (fun t h => by cases h) HLS.out)
  go_enter Tryz.func17, Tryz.ntmps17
  go_upto_region 2 with (fail)
  rw [← hw1]; clear hw1; have f0 : w1.cell? ⟨w.heap.size + 1, 0, none⟩ = some (.string ⟨#[120]⟩) := HF.out.cell 0
  have f1 : w1.cell? ⟨w.heap.size + 1, 1, none⟩ = some (.int .i64 1) := HF.out.cell 1
  have f2 : w1.cell? ⟨w.heap.size + 1, 2, none⟩ = some (.slice (some ⟨w.heap.size, 0, none⟩) 1 1) := HF.out.cell 2
  go_wp2_with fail
  refine HM1.out.mono ?_
  rintro x w2 ⟨v', tag', c, pu, cu, us, pn, cn, ns, rfl, hv, hT, hN, hb⟩; rw [merge0] at hv
  simp only [Prod.mk.injEq] at hv
  obtain ⟨rfl, rfl, hus, rfl, rfl⟩ := hv; obtain ⟨a, b, rfl⟩ := one_of hus
  have hT : RowT w1.heap.size w2 (.slice pu 1 cu) [(e0, a, b)] := hT
  have hN : RowN w1.heap.size w2 (.slice pn 1 cn) [⟨1, e0.uid, 1⟩] := hN
  obtain ⟨w3, hw3⟩ : ∃ w3, w3 = w2.alloc (.cells #[.int .i64 1, .int .i64 0, .slice pu 1 cu] 24) := ⟨_, rfl⟩
  obtain ⟨R, hR⟩ : ∃ R, R = w2.heap.size := ⟨_, rfl⟩
  have HR3 := Lib.hid (show Blk R #[.int .i64 1, .int .i64 0, .slice pu 1 cu] 24 w3 from by rw [hw3, hR]; exact Blk.new w2 _ _)
  have HT3 := Lib.hid (show RowT w1.heap.size w3 (.slice pu 1 cu) [(e0, a, b)] from by rw [hw3]; exact hT.alloc _)
  have HN3 := Lib.hid (show RowN w1.heap.size w3 (.slice pn 1 cn) [⟨1, e0.uid, 1⟩] from by rw [hw3]; exact World.ownsRow.alloc hN _)
  have HB3 := Lib.hid (show Below w1.heap.size w1 w3 from by rw [hw3]; exact hb.alloc hb.size _)
  clear hus hT hN hb f0 f1 f2 HM1; go_upto_region 3 with (fail)
  rw [← hw3, ← hR]; clear hw3 hR; have hs3 := HB3.out.size; have HF3 := Lib.hid (HF.out.below HB3.out HF.out.lt)
  have HSg3 := Lib.hid ((HSg.out.below HB3.out).mono hs3)
  have HM2 : Hid (Calls Tryz.prog 26 #[.agg #[.int .i64 1, .int .i64 0, .slice pu 1 cu], .agg #[.string ⟨#[120]⟩, .int .i64 1, .slice (some ⟨w.heap.size, 0, none⟩) 1 1]] w3 (Merged 1 0 [e0] ⟨#[120]⟩ 1 [e0] w3)) := Lib.hid (merge26 1 0 pu cu [(e0, a, b)] ⟨#[120]⟩ 1 (some ⟨w.heap.size, 0, none⟩) 1 [(e0, .slice none 0 0, .slice none 0 0)] w3 HT3.out.seg1 HSg3.out (show 1 ≤ 1000000000 by decide) (by decide) (fun t ht => by rw [List.mem_singleton.1 ht]; exact ⟨Nat.zero_le _, Nat.zero_le _⟩) HLS.out)
  have f0 : w3.cell? ⟨w.heap.size + 1, 0, none⟩ = some (.string ⟨#[120]⟩) := HF3.out.cell 0
  have f1 : w3.cell? ⟨w.heap.size + 1, 1, none⟩ = some (.int .i64 1) := HF3.out.cell 1
  have f2 : w3.cell? ⟨w.heap.size + 1, 2, none⟩ = some (.slice (some ⟨w.heap.size, 0, none⟩) 1 1) := HF3.out.cell 2
  have r0 : w3.cell? ⟨R, 0, none⟩ = some (.int .i64 1) := HR3.out.cell 0
  have r1 : w3.cell? ⟨R, 1, none⟩ = some (.int .i64 0) := HR3.out.cell 1
  have r2 : w3.cell? ⟨R, 2, none⟩ = some (.slice pu 1 cu) := HR3.out.cell 2
  go_wp2_with fail
  refine HM2.out.mono ?_
  rintro x w4 ⟨v', tag', c, pu2, cu2, us, pn2, cn2, ns, rfl, hv, hT, hN, hb⟩; rw [merge1] at hv
  simp only [Prod.mk.injEq] at hv
  obtain ⟨rfl, rfl, hus, rfl, rfl⟩ := hv; obtain ⟨a2, b2, rfl⟩ := one_of hus
  have hT : RowT w3.heap.size w4 (.slice pu2 1 cu2) [(e0, a2, b2)] := hT
  obtain ⟨w5, hw5⟩ : ∃ w5, w5 = w4.alloc (.cells #[.int .i64 1, .int .i64 0, .slice pu2 1 cu2] 24) := ⟨_, rfl⟩
  obtain ⟨R2, hR2⟩ : ∃ R2, R2 = w4.heap.size := ⟨_, rfl⟩
  have HR5 := Lib.hid (show Blk R2 #[.int .i64 1, .int .i64 0, .slice pu2 1 cu2] 24 w5 from by rw [hw5, hR2]; exact Blk.new w4 _ _)
  have HT5 := Lib.hid (show RowT w3.heap.size w5 (.slice pu2 1 cu2) [(e0, a2, b2)] from by rw [hw5]; exact hT.alloc _)
  have HB5 := Lib.hid (show Below w3.heap.size w3 w5 from by rw [hw5]; exact hb.alloc hb.size _)
  have HN5 := Lib.hid (show RowN w1.heap.size w5 (.slice pn 1 cn) [⟨1, e0.uid, 1⟩] from row_made HN3.out HB5.out)
  clear hus hT hN hb f0 f1 f2 r0 r1 r2 HM2; go_upto_region 4 with (fail)
  rw [← hw5, ← hR2]; clear hw5 hR2; have HAG : Hid (Calls Tryz.prog 32 #[.agg #[.int .i64 1, .int .i64 0, .slice pu2 1 cu2], .agg #[.string ⟨#[122]⟩, .int .i64 60, .slice none 0 0], .int .i64 0, .int .i64 9999] w5 fun x w' => ∃ (pa : Option Addr) (ca : Nat) (l : List Ent) (c : Int), x = .returned (.tuple #[.slice pa l.length ca, .int .i64 c]) ∧ (l, c) = agendaV 1 [e0] (Tt.code (⟨#[122]⟩ : ByteArray).data.toList) 60 [] 0 9999 ∧ RowA w5.heap.size w' (.slice pa l.length ca) l ∧ Below w5.heap.size w5 w') := Lib.hid (agenda32 1 0 pu2 cu2 [(e0, a2, b2)] ⟨#[122]⟩ 60 none 0 [] 0 9999 w5 HT5.out.seg1 (.inl rfl) (show 1 ≤ 1000000 by decide) (by decide) (fun t ht => by rw [List.mem_singleton.1 ht]; exact ⟨Nat.zero_le _, Nat.zero_le _⟩) (by show (shownV 1 [e0]).length ≤ 1; rw [shown0]; decide) (by show ∀ e ∈ shownV 1 [e0], _; rw [shown0]; intro e he; rw [List.mem_singleton.1 he, starts0]; decide))
  have r0 : w5.cell? ⟨R2, 0, none⟩ = some (.int .i64 1) := HR5.out.cell 0
  have r1 : w5.cell? ⟨R2, 1, none⟩ = some (.int .i64 0) := HR5.out.cell 1
  have r2 : w5.cell? ⟨R2, 2, none⟩ = some (.slice pu2 1 cu2) := HR5.out.cell 2
  go_wp2_with fail
  refine HAG.out.mono ?_
  rintro x w6 ⟨pa, ca, l, c, rfl, hl, hA, hb6⟩; rw [agenda0] at hl
  simp only [Prod.mk.injEq] at hl
  obtain ⟨rfl, rfl⟩ := hl; have HA6 := Lib.hid (show RowA w5.heap.size w6 (.slice pa 1 ca) [⟨2820, 45, e0.uid⟩] from hA)
  have HN6 := Lib.hid (show RowN w1.heap.size w6 (.slice pn 1 cn) [⟨1, e0.uid, 1⟩] from row_made HN5.out hb6)
  have HT6 := Lib.hid (HT5.out.made hb6)
  have HR6 := Lib.hid (HR5.out.below hb6 HR5.out.lt)
  have HL6 := Lib.hid (HL.out.trans (HB3.out.mono HL.out.size |>.trans ((HB5.out.mono (Nat.le_trans HL.out.size hs3)).trans (hb6.mono (Nat.le_trans HL.out.size (Nat.le_trans hs3 HB5.out.size))))))
  clear hA hb6 r0 r1 r2 HAG; obtain ⟨ga, hpa, hca⟩ : ∃ g, pa = some ⟨g, 0, none⟩ ∧ w6.cell? ⟨g, 0, none⟩ = some (.int .i64 2820) := by
    rcases (show w6.ownsRow w5.heap.size 57 3 (.slice pa 1 ca) 1 _ from HA6.out).2 with ⟨h1, h0⟩ | ⟨g, cap, cur, hv, _⟩
    · cases h0
    · simp only [Value.slice.injEq] at hv
      have h := World.ownsRow.cells (show w6.ownsRow w5.heap.size 57 3 (.slice pa 1 ca) 1 _ from HA6.out) (g := g) (by rw [hv.1]; rfl) 0 (.int .i64 2820) rfl
      rw [Addr.add_lit] at h
      exact ⟨g, hv.1, h⟩
  obtain ⟨gn, hpn, hcn⟩ : ∃ g, pn = some ⟨g, 0, none⟩ ∧ w6.cell? ⟨g, 0, none⟩ = some (.int .i64 1) := by
    rcases (show w6.ownsRow w1.heap.size 99 3 (.slice pn 1 cn) 1 _ from HN6.out).2 with ⟨h1, h0⟩ | ⟨g, cap, cur, hv, _⟩
    · cases h0
    · simp only [Value.slice.injEq] at hv
      have h := World.ownsRow.cells (show w6.ownsRow w1.heap.size 99 3 (.slice pn 1 cn) 1 _ from HN6.out) (g := g) (by rw [hv.1]; rfl) 0 (.int .i64 1) rfl
      rw [Addr.add_lit] at h
      exact ⟨g, hv.1, h⟩
  subst hpa; subst hpn; have HSH : Hid (Calls Tryz.prog 64 #[.agg #[.int .i64 1, .int .i64 0, .slice pu2 1 cu2]] w6 fun x w' => ∃ (pu : Option Addr) (cu : Nat) (ts : List (Ev × Value × Value)), x = .returned (.slice pu ts.length cu) ∧ ts.map (·.1) = shownV 1 [e0] ∧ RowT w6.heap.size w' (.slice pu ts.length cu) ts ∧ Below w6.heap.size w6 w') := Lib.hid (shown64 1 0 pu2 cu2 [(e0, a2, b2)] w6 HT6.out.seg1 (show 1 ≤ 1000000 by decide) (fun t ht => by rw [List.mem_singleton.1 ht]; exact ⟨Nat.zero_le _, Nat.zero_le _⟩))
  have r0 : w6.cell? ⟨R2, 0, none⟩ = some (.int .i64 1) := HR6.out.cell 0
  have r1 : w6.cell? ⟨R2, 1, none⟩ = some (.int .i64 0) := HR6.out.cell 1
  have r2 : w6.cell? ⟨R2, 2, none⟩ = some (.slice pu2 1 cu2) := HR6.out.cell 2
  go_wp2_with fail
  refine HSH.out.mono ?_
  rintro x w7 ⟨pu7, cu7, us7, rfl, hus, -, hb7⟩; rw [shown0] at hus
  obtain ⟨a7, b7, rfl⟩ := one_of hus
  have hca7 : w7.cell? ⟨ga, 0, none⟩ = some (.int .i64 2820) := (hb7.cell (p := ⟨ga, 0, none⟩) (block_lt_of_cell hca)).trans hca
  have HL7 := Lib.hid (HL6.out.trans (hb7.mono HL6.out.size))
  clear hus hb7 hca hcn r0 r1 r2 HSH; go_wp2_with fail
  go_ret; exact ⟨rfl, HL7.out⟩
end Go.Proofs.YtageielcdebjlaaGreatDoor
namespace Go.Proofs.YtageielcdebjlaaGreatDoor
open Go.RowKit

theorem digit_one (d : UInt8) (h : 49 ≤ d.toNat) (h2 : d.toNat ≤ 57) : Tt.numFrom [d] 1 = true := by
  unfold Tt.numFrom
  rw [decide_eq_true_iff]
  refine ⟨d.toNat - 48, by omega, by omega, ?_⟩
  rw [Lib.decDigits_one (by omega), show 48 + (d.toNat - 48) = d.toNat by omega, UInt8.ofNat_toNat]
theorem code_two (c : UInt8) (h : 49 ≤ c.toNat) (h2 : c.toNat ≤ 57) : Tt.code [99, c] = true := by
  have hc : c = UInt8.ofNat (49 + (c.toNat - 49)) := by rw [show 49 + (c.toNat - 49) = c.toNat by omega, UInt8.ofNat_toNat]
  rw [hc]
  exact (show ∀ n : Nat, n < 9 → Tt.code [99, UInt8.ofNat (49 + n)] = true by decide) _ (by omega)
theorem UidK.right {k : Int} {u : ByteArray} (h : UidK k u) (h0 : 0 ≤ k) (h1 : k < 9) : rightB u.data.toList = true := by
  obtain ⟨c, d, hu, hc, hd, hd2⟩ := h; unfold rightB
  rw [hu, show ([99, c, 64, d] : List UInt8) = [99, c] ++ 64 :: [d] from rfl, Tt.rightP_last Tt.code code_no_at, code_two c (by omega) (by omega), digit_one d hd hd2]
  rfl
theorem UidK.late {k : Int} {p u : ByteArray} (h : UidK k p) (h' : UidK (k + 1) u) : lateU (some p) u = false := by
  obtain ⟨c, d, hp, hc, -, -⟩ := h; obtain ⟨c', d', hu, hc', -, -⟩ := h'; show (Op.bytesLess u.toList p.toList || u.toList == p.toList) = false
  rw [Bool.or_eq_false_iff]
  have hlt : c < c' := by rw [UInt8.lt_iff_toNat_lt]; omega
  constructor
  · rw [← Bool.not_eq_true]; intro hl
    have hl := (lessU_iff u p).1 hl
    rw [Lib.toList_data, Lib.toList_data, hu, hp, List.cons_lt_cons_iff] at hl
    rcases hl with hl | ⟨-, hl⟩
    · exact absurd hl (UInt8.lt_irrefl _)
    · rw [List.cons_lt_cons_iff] at hl
      rcases hl with hl | ⟨hl, -⟩
      · rw [UInt8.lt_iff_toNat_lt] at hl; omega
      · subst hl; omega
  · rw [Lib.toList_data, Lib.toList_data, hu, hp, beq_eq_false_iff_ne]
    intro he; injection he with _ he
    injection he with he _
    subst he; omega
theorem evs_zero (v : Int) : ∀ (es : List Ev) (k : Int) (p : Option ByteArray), 0 ≤ k → k + es.length ≤ 9 → (∀ (i : Nat) (e : Ev), es[i]? = some e → UidK (k + i) e.uid ∧ checkV e v = 0) → (∀ q, p = some q → UidK (k - 1) q) → evsV v p es = 0
  | [], _, _, _, _, _, _ => by unfold evsV; rfl
  | e :: r, k, p, hk, hl, h, hp => by
    obtain ⟨h1, h2⟩ := h 0 e rfl
    have h1 : UidK k e.uid := by simpa using h1
    refine (evsV_cons v p e r).2 ⟨h1.right hk (by simp at hl; omega), ?_, h2, evs_zero v r (k + 1) (some e.uid) (by omega) (by simp at hl; omega) (fun i x hx => ?_) (fun q hq => by cases hq; rw [show k + 1 - 1 = k by omega]; exact h1)⟩
    · cases p with
      | none => rfl
      | some q => exact (hp q rfl).late (by rw [show k - 1 + 1 = k by omega]; exact h1)
    · have := h (i + 1) x hx
      rw [show k + 1 + (i : Int) = k + ((i + 1 : Nat) : Int) by omega]
      exact this
/-- A drawn feed is valid. -/
theorem feed_zero {n : ByteArray} {v : Int} {ts : List (Ev × Value × Value)} (hn : Tt.code n.data.toList = true) (h0 : 1 ≤ v) (h1 : v ≤ 6) (hl : ts.length ≤ 4) (h : ∀ (i : Nat) (t : Ev × Value × Value), ts[i]? = some t → UidK i t.1.uid ∧ checkV t.1 v = 0) : feedV n v (ts.map (·.1)) = 0 := by
  unfold feedV
  rw [if_neg (by simp [hn]), if_neg (by omega), if_neg (by rw [List.length_map]; omega)]
  refine evs_zero v _ 0 none (by omega) (by rw [List.length_map]; omega) (fun i e he => ?_) (fun q hq => by cases hq)
  rw [List.getElem?_map] at he
  obtain ⟨t, ht, rfl⟩ := Option.map_eq_some_iff.1 he
  rw [Int.zero_add]
  exact h i t ht

end Go.Proofs.YtageielcdebjlaaGreatDoor
namespace Tt

theorem gap_ok : ∀ (sh : List (Int × Int)) (m b off l : Int), Asc m sh → b ≤ l - off → l - off < 52596000 → l + 840 < 52596000 → instP b off sh l = [] → ∃ t, gapP off sh l = (t, 0) ∧ 0 ≤ t ∧ t < 52596000
  | [], _, b, off, l, _, hb, h1, _, h => by
    rw [instP_nil, if_pos ⟨hb, h1⟩] at h
    cases h
  | x :: r, m, b, off, l, ⟨g1, g2, g3, g4, g5, g6⟩, hb, h1, h2, h => by
    rw [instP_cons] at h
    obtain ⟨e1, e2⟩ := List.append_eq_nil_iff.1 h
    have hx : x.1 ≤ l - off := by
      apply Decidable.byContradiction
      intro hc; rw [if_pos ⟨hb, by omega⟩] at e1
      cases e1
    show ∃ t, (if x.1 + off ≤ l ∧ l < x.1 + x.2 then (if instB (l - off) = true then (l - off, (0 : Int)) else (0, 3)) else gapP x.2 r l) = (t, 0) ∧ 0 ≤ t ∧ t < 52596000
    by_cases hm : l < x.1 + x.2
    · rw [if_pos ⟨by omega, hm⟩, if_pos ((instB_iff _).2 ⟨by omega, h1⟩)]
      exact ⟨_, rfl, by omega, h1⟩
    · rw [if_neg (fun hc => hm hc.2)]
      exact gap_ok r _ x.1 x.2 l g6 (by omega) (by omega) h2 e2

theorem res_ok (code : Bool) (off : Int) (sh : List (Int × Int)) (l : Int) (h : zoneV code off sh = 0) (h0 : 840 ≤ l) (h1 : l + 840 < 52596000) :
    ∃ t, resV code off sh l = (t, 0) ∧ 0 ≤ t ∧ t < 52596000 ∧ (t + offAt off sh t = l ∨ instV code off sh l = []) := by
  obtain ⟨_, ho1, ho2, _, _, ha⟩ := zoneV_zero code off sh h
  have hv : instV code off sh l = instP 0 off sh l := by unfold instV; rw [if_neg (by simp [h])]
  cases hh : instP 0 off sh l with
  | nil =>
    rw [resV_gap code off sh l h hh, hv, hh]
    obtain ⟨t, e, g1, g2⟩ := gap_ok sh 0 0 off l ha (by omega) (by omega) h1 hh
    exact ⟨t, e, g1, g2, .inr rfl⟩
  | cons t r =>
    rw [resV_hit code off sh l t r h hh, hv, hh]
    have hm := (mem_instP sh 0 0 off l t ha (.inl (Int.le_refl _))).1 (by rw [hh]; simp)
    exact ⟨t, rfl, hm.1, hm.2.1, .inl (by omega)⟩
end Tt
namespace Go.Proofs.YtageielcdebjlaaGreatDoor
open Go.RowKit

theorem goS_map (f : Int → Int × Int) : ∀ (ds acc : List Int), (∀ d ∈ ds, (f d).2 = 0) → goS f acc ds = (acc ++ ds.map (fun d => (f d).1), 0)
  | [], acc, _ => by rw [goS, List.map_nil, List.append_nil]
  | d :: r, acc, h => by
    rw [goS, if_neg (by simp [h d (by simp)]), goS_map f r _ (fun x hx => h x (List.mem_cons_of_mem _ hx)), List.map_cons, List.append_assoc]
    rfl
theorem ser_days {s : Tt.Ser} {d : Int} (h : d ∈ Tt.serDays s) : s.first ≤ d ∧ d ≤ s.last := by
  unfold Tt.serDays at h
  split at h
  · cases h
  · have h1 := (List.mem_filter.1 h).1
    unfold Tt.span at h1
    have := (Tt.mem_daysFrom _ _ _).1 h1
    omega
theorem daysFrom_len : ∀ (n : Nat) (a : Int), (Tt.daysFrom a n).length = n
  | 0, _ => rfl
  | n + 1, a => by rw [Tt.daysFrom, List.length_cons, daysFrom_len n]
theorem ser_few {s : Tt.Ser} (h : Tt.serV s = 0) : (Tt.serDays s).length ≤ 1000 := by
  have hh := ((Tt.serV_zero s).1 h).1
  have h1 := hh.lf; unfold Tt.serDays
  rw [if_neg (by simp [h])]
  refine Nat.le_trans (List.length_filter_le _ _) ?_
  unfold Tt.span
  rw [daysFrom_len]
  omega
/-- The starts of a drawn event in a valid zone. -/
theorem starts_ok {code : Bool} {v k : Int} {sh : List (Int × Int)} {e : Ev} (hz : Tt.zoneV code v sh = 0) (hr : rightB e.uid.data.toList = true) (hc : checkV e k = 0) (hk : k ≤ 64) (hs : SerG e.days) :
    (startsV code v sh e).2 = 0 ∧ (startsV code v sh e).1.length ≤ 1000 ∧ (startsV code v sh e).1.Pairwise (· < ·) := by
  obtain ⟨c1, c2, c3⟩ := checkV_zero e k hc
  have hd : ∀ d ∈ Tt.serDays e.days, (dayT code v sh e.start d).2 = 0 := fun d hd => by
    have h1 := ser_days hd; have h2 := hs.f0; have h3 := hs.l1; obtain ⟨t, ht, _⟩ := Tt.res_ok code v sh (1440 * d + e.start) hz (by omega) (by omega)
    unfold dayT
    rw [ht]
  rw [startsV_days code v sh e hz hr (checkV_mono hc hk), goS_map _ _ _ hd, List.nil_append]
  refine ⟨rfl, by rw [List.length_map]; exact ser_few c1, ?_⟩
  rw [List.pairwise_map]
  refine List.Pairwise.imp_of_mem ?_ (Tt.serDays_sorted e.days)
  intro a b ha hb hab; have r : ∀ d ∈ Tt.serDays e.days, Tt.resV code v sh (1440 * d + e.start) = ((dayT code v sh e.start d).1, 0) := fun d h => by
    have h1 := hd d h; unfold dayT at h1 ⊢
    exact Prod.ext rfl h1
  exact Tt.res_mono code v sh _ _ _ _ hz (r a ha) (r b hb) (by omega)

/-- What is shown of a drawn feed, as times. -/
def shownE (code : Bool) (zv : Int) (sh : List (Int × Int)) (es : List Ev) : List (Int × ByteArray × List Int) := (es.filter (fun e => !e.canc)).map fun e => (e.mins, e.uid, (startsV code zv sh e).1)
theorem feed_ag {n : ByteArray} {v : Int} {es : List Ev} (h : feedV n v es = 0) (hs : ∀ e ∈ es, SerG e.days) {code : Bool} {zv : Int} {sh : List (Int × Int)} (hz : Tt.zoneV code zv sh = 0) :
    (∀ lo hi, agendaV v es code zv sh lo hi = (Tt.picks lo hi (shownE code zv sh es), 0)) ∧ (∀ e ∈ shownV v es, (startsV code zv sh e).1.length ≤ 1000) ∧
      (∀ e ∈ shownE code zv sh es, e.2.2.Pairwise (· < ·)) ∧ (shownE code zv sh es).Pairwise (fun a b => a.2.1 ≠ b.2.1) := by
  obtain ⟨h1, h2, h3, h4⟩ := feedV_ok h
  have hr : rdOk v es = true := (rdOk_iff v es).2 ⟨h1, h2, h3, h4⟩
  have hsv : shownV v es = es.filter (fun e => !e.canc) := by unfold shownV; rw [if_pos hr]
  have hk : ∀ e ∈ es, (startsV code zv sh e).2 = 0 ∧ (startsV code zv sh e).1.length ≤ 1000 ∧ (startsV code zv sh e).1.Pairwise (· < ·) := fun e he => by
    have := evsV_each v es none h4 e he
    exact starts_ok hz this.1 this.2 h2 (hs e he)
  refine ⟨fun lo hi => ?_, fun e he => ?_, fun e he => ?_, ?_⟩
  · have hg := agRun_zero code zv sh lo hi (shownV v es) [] (fun e he => (hk e (by rw [hsv] at he; exact (List.mem_filter.1 he).1)).1)
    unfold agendaV
    rw [hg, if_neg (by simp [hr]), if_neg (by simp), if_neg (by simp [hz]), List.nil_append, hsv]
    rfl
  · rw [hsv] at he
    exact (hk e (List.mem_filter.1 he).1).2.1
  · obtain ⟨x, hx, rfl⟩ := List.mem_map.1 he
    exact (hk x (List.mem_filter.1 hx).1).2.2
  · unfold shownE
    rw [List.pairwise_map]
    refine List.Pairwise.filter _ ?_
    have hu := evsV_up v none es h4; rw [List.pairwise_iff_getElem]
    intro i j hi hj hij he; have := hu i j es[i] es[j] hij (List.getElem?_eq_getElem hi) (List.getElem?_eq_getElem hj)
    rw [lessU_iff, show es[i].uid = es[j].uid from he] at this
    exact absurd this (List.lt_irrefl _)
end Go.Proofs.YtageielcdebjlaaGreatDoor
namespace Go.Proofs.YtageielcdebjlaaGreatDoor
open Go.RowKit

/-- A reader's events in memory. -/
structure RdM (w : World) (ao : Option Addr) (n c : Nat) (ts : List (Ev × Value × Value)) : Prop where
  len : n = ts.length
  seg : Seg w.heap.size w ao ts
  nil : ao = none → c = 0
  cap : n ≤ c
  few : n ≤ 1000000
  ex : ∀ t ∈ ts, t.1.days.ex.length ≤ 1000000 ∧ t.1.days.xt.length ≤ 1000000
theorem RdM.below {w w' : World} {ao : Option Addr} {n c : Nat} {ts : List (Ev × Value × Value)} (h : RdM w ao n c ts) (hb : Below w.heap.size w w') : RdM w' ao n c ts := ⟨h.len, (h.seg.below hb).mono hb.size, h.nil, h.cap, h.few, h.ex⟩
theorem RowE.rdm {lo : Nat} {w : World} {pu : Option Addr} {cu : Nat} {ts : List (Ev × Value × Value)} (h : RowE lo w (.slice pu ts.length cu) ts) (hl : ts.length ≤ 1000000) : RdM w pu ts.length cu ts := by
  obtain ⟨ao, c, h1, h2, h3⟩ := h.t.seg
  simp only [Value.slice.injEq] at h1
  obtain ⟨rfl, -, rfl⟩ := h1; refine ⟨rfl, h3, h2, ?_, hl, fun t ht => ?_⟩
  · rcases h.row.2 with ⟨_, h0⟩ | ⟨g, cap, cur, hv, _, _, h5, _⟩
    · omega
    · simp only [Value.slice.injEq] at hv
      omega
  · have hg := (h.ref t ht).1
    exact ⟨by have := hg.ex; omega, by have := hg.xt; omega⟩

/-- A feed's events in memory. -/
structure FdM (w : World) (ao : Option Addr) (n : Nat) (ts : List (Ev × Value × Value)) : Prop where
  len : n = ts.length
  seg : Seg w.heap.size w ao ts
  few : n ≤ 1000000
  ex : ∀ t ∈ ts, t.1.days.ex.length ≤ 1000000 ∧ t.1.days.xt.length ≤ 1000000
theorem FdM.below {w w' : World} {ao : Option Addr} {n : Nat} {ts : List (Ev × Value × Value)} (h : FdM w ao n ts) (hb : Below w.heap.size w w') : FdM w' ao n ts := ⟨h.len, (h.seg.below hb).mono hb.size, h.few, h.ex⟩
end Go.Proofs.YtageielcdebjlaaGreatDoor
