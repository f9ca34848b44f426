/- timetablelaw40.term: its contract: a grid, a term and rows of sessions in new memory. -/
import Derived.Test.YtageielcdebjlaaGreatDoorOddSes
namespace Go.Proofs.YtageielcdebjlaaGreatDoor
open Go.RowKit

/-- What term leaves. -/
def TermR (b : Nat) (w : World) (e : Ending) (w' : World) : Prop := ∃ (g : Tt.Grd) (t : Tt.Trm) (v u : Value) (ls : List (Value × List Ses)), e = .returned (.tuple #[grdVal g, trmVal t v, u]) ∧ RowI w.heap.size w' v t.hols ∧ t.hols.length ≤ 100 ∧ RowSS w.heap.size w' u ls ∧ ls.length ≤ 4 ∧ (∀ q ∈ ls, q.2.length ≤ 200) ∧ Sofar b w w'
theorem RowSS.set {lo : Nat} {w : World} {u : Value} {ls : List (Value × List Ses)} (h : RowSS lo w u ls) {g : Nat} {cs : Array Value} {ty : TypeId} (hg : Blk g cs ty w) (h1 : ty ≠ 110) (h2 : ty ≠ 107) (i : Nat) (x : Value) : RowSS lo (w.setCell ⟨g, i, none⟩ x) u ls := ⟨row_set h.row hg h1 i x, fun q hq => row_set (h.each q hq) hg h2 i x⟩
theorem RowSS.setAll {lo : Nat} {w : World} {u : Value} {ls : List (Value × List Ses)} (h : RowSS lo w u ls) {g : Nat} {cs : Array Value} {ty : TypeId} (hg : Blk g cs ty w) (h1 : ty ≠ 110) (h2 : ty ≠ 107) (vs : List Value) : RowSS lo (setAll w g 0 vs) u ls := ⟨row_setAll h1 vs 0 w cs h.row hg, fun q hq => row_setAll h2 vs 0 w cs (h.each q hq) hg⟩
theorem RowSS.drew' {lo : Nat} {w : World} {u : Value} {ls : List (Value × List Ses)} (h : RowSS lo w u ls) : RowSS lo w.drew u ls := ⟨h.row, h.each⟩
/-- One row of rows in the place of another. -/
theorem RowSS.put {lo n c g : Nat} {w : World} {ls : List (Value × List Ses)} (h : RowSS lo w (.slice (some ⟨g, 0, none⟩) n c) ls) (k : Nat) (q : Value × List Ses) (hq : RowS lo w q.1 q.2) : RowSS lo (w.setCell ⟨g, k, none⟩ q.1) (.slice (some ⟨g, 0, none⟩) n c) (ls.set k q) := by
  obtain ⟨p', c', hv⟩ := ownsRow_len h.row
  have hn : n = ls.length := by injection hv
  subst hn; obtain ⟨cur, hb, -⟩ := row_blk h.row
  refine ⟨by rw [List.length_set, List.map_set]; exact row_put h.row k q.1, fun r hr => ?_⟩
  rcases List.mem_or_eq_of_mem_set hr with h3 | h3
  · exact row_set (h.each r h3) hb (by decide) _ _
  · subst h3; exact row_set hq hb (by decide) _ _
set_option maxHeartbeats 8000000 in
set_option maxRecDepth 100000 in
theorem term68 (b : Nat) (w : World) (hd : Dice b w) : Calls Tryz.prog 68 #[.pointer (some ⟨b, 0, none⟩)] w (TermR b w) := by
  have hblt := hd.lt; obtain ⟨R, hR⟩ : ∃ g, g = w.heap.size := ⟨_, rfl⟩
  obtain ⟨Y, hY⟩ : ∃ g, g = w.heap.size + 1 := ⟨_, rfl⟩
  obtain ⟨w0, hw0⟩ : ∃ X, X = ((w.alloc (.cells #[.int .i64 0, .int .i64 0, .int .i64 0, .int .i64 0] 90)).alloc (.cells #[.int .i64 0, .int .i64 0, .slice none 0 0] 93)) := ⟨_, rfl⟩
  have HS_w0 := Lib.hid (show Sofar b w w0 from by rw [hw0]; exact (((Sofar.refl hd).alloc _).alloc _))
  have HR_w0 := Lib.hid (show Blk R #[.int .i64 0, .int .i64 0, .int .i64 0, .int .i64 0] 90 w0 from by rw [hw0, hR]; exact (Blk.new' _ _ _ (by simp)).alloc _)
  have lR : w.heap.size ≤ R := by omega
  have HY_w0 := Lib.hid (show Blk Y #[.int .i64 0, .int .i64 0, .slice none 0 0] 93 w0 from by rw [hw0, hY]; exact Blk.new' _ _ _ (by simp))
  have lY : w.heap.size ≤ Y := by omega
  have nYR : Y ≠ R := by omega
  have bR : b < R := by omega
  have bY : b < Y := by omega
  go_enter Tryz.func68, Tryz.ntmps68
  go_upto_region 1 with (fail)
  rw [← hw0, ← hY, ← hR]; clear hw0 hR hY; have HWB := Lib.hid hblt; have nRb : R ≠ b := by omega
  have nYb : Y ≠ b := by omega
  go_wp2_with fail
  refine (grid60 b _ HS_w0.out.dice).mono ?_
  rintro e w1 ⟨g, rfl, g0, g1, g2, g3, hs⟩; have HS_w1 := Lib.hid (HS_w0.out.trans hs)
  have HR_w1 := Lib.hid (hs.blk HR_w0.out nRb)
  have HY_w1 := Lib.hid (hs.blk HY_w0.out nYb)
  clear hs HS_w0 HR_w0 HY_w0; unfold grdVal
  go_wp2_with fail
  refine (term61 b _ HS_w1.out.dice).mono ?_
  rintro e w2 ⟨t, v, rfl, hv, hvl, t0, t1, t2, t3, hs⟩; obtain ⟨pt, ct, hpv⟩ := RowI.slice hv
  subst hpv; have HS_w2 := Lib.hid (HS_w1.out.trans hs)
  have HR_w2 := Lib.hid (hs.blk HR_w1.out nRb)
  have HY_w2 := Lib.hid (hs.blk HY_w1.out nYb)
  have HV_w2 := Lib.hid (show RowI w.heap.size w2 (.slice pt t.hols.length ct) t.hols from ownsRow_mono hv HS_w1.out.but.size)
  clear hs hv HS_w1 HR_w1 HY_w1; unfold trmVal
  obtain ⟨A, hA⟩ : ∃ x, x = w2.heap.size := ⟨_, rfl⟩
  obtain ⟨E, hE⟩ : ∃ x, x = w2.heap.size + 1 := ⟨_, rfl⟩
  obtain ⟨w3, hw3⟩ : ∃ X, X = (w2.alloc (.cells #[.int .i64 g.days, .int .i64 g.slots, .int .i64 g.begin_, .int .i64 g.mins] 90)).alloc (.cells #[.int .i64 t.first, .int .i64 t.weeks, .slice pt t.hols.length ct] 93) := ⟨_, rfl⟩
  have HS_w3 := Lib.hid (show Sofar b w w3 from by rw [hw3]; exact (HS_w2.out.alloc _).alloc _)
  have HR_w3 := Lib.hid (show Blk R #[.int .i64 0, .int .i64 0, .int .i64 0, .int .i64 0] 90 w3 from by rw [hw3]; exact (HR_w2.out.alloc _).alloc _)
  have HY_w3 := Lib.hid (show Blk Y #[.int .i64 0, .int .i64 0, .slice none 0 0] 93 w3 from by rw [hw3]; exact (HY_w2.out.alloc _).alloc _)
  have HA_w3 := Lib.hid (show Blk A #[.int .i64 g.days, .int .i64 g.slots, .int .i64 g.begin_, .int .i64 g.mins] 90 w3 from by rw [hw3, hA]; exact (Blk.new w2 _ _).alloc _)
  have HE_w3 := Lib.hid (show Blk E #[.int .i64 t.first, .int .i64 t.weeks, .slice pt t.hols.length ct] 93 w3 from by rw [hw3, hE]; exact Blk.new' _ _ _ (by simp))
  have HV_w3 := Lib.hid (show RowI w.heap.size w3 (.slice pt t.hols.length ct) t.hols from by rw [hw3]; exact World.ownsRow.alloc (World.ownsRow.alloc HV_w2.out _) _)
  have nRA : R ≠ A := by have := HR_w2.out.lt; omega
  have nRE : R ≠ E := by have := HR_w2.out.lt; omega
  have nYA : Y ≠ A := by have := HY_w2.out.lt; omega
  have nYE : Y ≠ E := by have := HY_w2.out.lt; omega
  have nAE : A ≠ E := by omega
  have lA : w.heap.size ≤ A := by have := HS_w2.out.but.size; omega
  have lE : w.heap.size ≤ E := by omega
  have bA : b < A := by omega
  have bE : b < E := by omega
  have nAb : A ≠ b := by omega
  have nEb : E ≠ b := by omega
  go_upto_region 2 with (fail)
  rw [← hw3, ← hE, ← hA]; clear hw3 hA hE HS_w2 HR_w2 HY_w2 HV_w2; have ca0 : w3.cell? ⟨A, 0, none⟩ = some (.int .i64 g.days) := HA_w3.out.cell 0
  have ca1 : w3.cell? ⟨A, 1, none⟩ = some (.int .i64 g.slots) := HA_w3.out.cell 1
  have ca2 : w3.cell? ⟨A, 2, none⟩ = some (.int .i64 g.begin_) := HA_w3.out.cell 2
  have ca3 : w3.cell? ⟨A, 3, none⟩ = some (.int .i64 g.mins) := HA_w3.out.cell 3
  have ce0 : w3.cell? ⟨E, 0, none⟩ = some (.int .i64 t.first) := HE_w3.out.cell 0
  have ce1 : w3.cell? ⟨E, 1, none⟩ = some (.int .i64 t.weeks) := HE_w3.out.cell 1
  have ce2 : w3.cell? ⟨E, 2, none⟩ = some (.slice pt t.hols.length ct) := HE_w3.out.cell 2
  go_wp2_with fail
  refine (show Calls Tryz.prog 62 #[.pointer (some ⟨b, 0, none⟩), .agg #[.int .i64 g.days, .int .i64 g.slots, .int .i64 g.begin_, .int .i64 g.mins], .agg #[.int .i64 t.first, .int .i64 t.weeks, .slice pt t.hols.length ct]] w3 _ from states62 b g t pt ct w3 HS_w3.out.dice g0 g1 g2 g3 t2 t3).mono ?_
  rintro e w4 ⟨u, ls, rfl, ho, hll, hle, hs⟩; have HS_w4 := Lib.hid (HS_w3.out.trans hs)
  have HR_w4 := Lib.hid (hs.blk HR_w3.out nRb)
  have HY_w4 := Lib.hid (hs.blk HY_w3.out nYb)
  have HA_w4 := Lib.hid (hs.blk HA_w3.out nAb)
  have HE_w4 := Lib.hid (hs.blk HE_w3.out nEb)
  have HV_w4 := Lib.hid (show RowI w.heap.size w4 _ _ from row_but HV_w3.out HWB.out hs.but)
  have HO_w4 := Lib.hid (ho.mono HS_w3.out.but.size)
  have HLE := Lib.hid hle; clear hs ho hle HS_w3 HR_w3 HY_w3 HA_w3 HE_w3 HV_w3 ca0 ca1 ca2 ca3 ce0 ce1 ce2; go_wp2_with fail
  refine (next_any b 12 _ HS_w4.out.dice (by omega) (by omega)).mono ?_
  rintro e w5 ⟨q, rfl, q0, q1, -, hd, ho⟩; have q1 := q1 (by omega)
  have hs : Sofar b w4 w5 := ⟨but_only (But.refl b _ w4) ho, hd⟩
  have HS_w5 := Lib.hid (HS_w4.out.trans hs)
  have HR_w5 := Lib.hid (hs.blk HR_w4.out nRb)
  have HY_w5 := Lib.hid (hs.blk HY_w4.out nYb)
  have HA_w5 := Lib.hid (hs.blk HA_w4.out nAb)
  have HE_w5 := Lib.hid (hs.blk HE_w4.out nEb)
  have HV_w5 := Lib.hid (show RowI w.heap.size w5 _ _ from row_but HV_w4.out HWB.out hs.but)
  have HO_w5 := Lib.hid (HO_w4.out.but HWB.out hs.but)
  clear hs hd ho HS_w4 HR_w4 HY_w4 HA_w4 HE_w4 HV_w4 HO_w4; rcases (show q = 0 ∨ q = 1 ∨ q = 2 ∨ 3 ≤ q by omega) with rfl | rfl | rfl | hq
  · have ca0 : w5.cell? ⟨A, 0, none⟩ = some (.int .i64 g.days) := HA_w5.out.cell 0
    have ca1 : w5.cell? ⟨A, 1, none⟩ = some (.int .i64 g.slots) := HA_w5.out.cell 1
    have ca2 : w5.cell? ⟨A, 2, none⟩ = some (.int .i64 g.begin_) := HA_w5.out.cell 2
    have ca3 : w5.cell? ⟨A, 3, none⟩ = some (.int .i64 g.mins) := HA_w5.out.cell 3
    go_wp2_with fail
    refine (show Calls Tryz.prog 131 #[.pointer (some ⟨b, 0, none⟩), .agg #[.int .i64 g.days, .int .i64 g.slots, .int .i64 g.begin_, .int .i64 g.mins]] w5 _ from oddgrid131 b g w5 HS_w5.out.dice).mono ?_
    rintro e w6 ⟨g', rfl, hs⟩; have HS_w6 := Lib.hid (HS_w5.out.trans hs)
    have HR_w6 := Lib.hid (hs.blk HR_w5.out nRb)
    have HY_w6 := Lib.hid (hs.blk HY_w5.out nYb)
    have HA_w6 := Lib.hid (hs.blk HA_w5.out nAb)
    have HE_w6 := Lib.hid (hs.blk HE_w5.out nEb)
    have HV_w6 := Lib.hid (show RowI w.heap.size w6 _ _ from row_but HV_w5.out HWB.out hs.but)
    have HO_w6 := Lib.hid (HO_w5.out.but HWB.out hs.but)
    clear hs HS_w5 HR_w5 HY_w5 HA_w5 HE_w5 HV_w5 HO_w5; unfold grdVal
    clear ca0 ca1 ca2 ca3; have ca0 : w6.cell? ⟨A, 0, none⟩ = some (.int .i64 g.days) := HA_w6.out.cell 0
    have ca1 : w6.cell? ⟨A, 1, none⟩ = some (.int .i64 g.slots) := HA_w6.out.cell 1
    have ca2 : w6.cell? ⟨A, 2, none⟩ = some (.int .i64 g.begin_) := HA_w6.out.cell 2
    have ca3 : w6.cell? ⟨A, 3, none⟩ = some (.int .i64 g.mins) := HA_w6.out.cell 3
    have fa0 := HA_w6.out.frozen 0; have fa1 := HA_w6.out.frozen 1; have fa2 := HA_w6.out.frozen 2; have fa3 := HA_w6.out.frozen 3; go_upto_region 12 with (fail)
    clear ca0 ca1 ca2 ca3 fa0 fa1 fa2 fa3; obtain ⟨w7, hw7, hA7, hS7⟩ := fillS HA_w6.out HS_w6.out lA bA [.int .i64 g'.days, .int .i64 g'.slots, .int .i64 g'.begin_, .int .i64 g'.mins] rfl
    have HA_w7 := Lib.hid hA7; have HS_w7 := Lib.hid hS7; have HR_w7 := Lib.hid (show Blk R #[.int .i64 0, .int .i64 0, .int .i64 0, .int .i64 0] 90 w7 from by rw [hw7]; exact Blk.puts_other nRA _ 0 _ HR_w6.out)
    have HY_w7 := Lib.hid (show Blk Y #[.int .i64 0, .int .i64 0, .slice none 0 0] 93 w7 from by rw [hw7]; exact Blk.puts_other nYA _ 0 _ HY_w6.out)
    have HE_w7 := Lib.hid (show Blk E #[.int .i64 t.first, .int .i64 t.weeks, .slice pt t.hols.length ct] 93 w7 from by rw [hw7]; exact Blk.puts_other nAE.symm _ 0 _ HE_w6.out)
    have HV_w7 := Lib.hid (show RowI w.heap.size w7 (.slice pt t.hols.length ct) t.hols from by rw [hw7]; exact row_setAll (by decide) _ 0 _ _ HV_w6.out HA_w6.out)
    have HO_w7 := Lib.hid (show RowSS w.heap.size w7 u ls from by rw [hw7]; exact RowSS.setAll HO_w6.out HA_w6.out (by decide) (by decide) _)
    simp only [setAll, Nat.zero_add] at hw7
    rw [← hw7]; clear hw7 hA7 hS7 HR_w6 HY_w6 HA_w6 HE_w6 HV_w6 HO_w6 HS_w6; have ca0 : w7.cell? ⟨A, 0, none⟩ = some (.int .i64 g'.days) := HA_w7.out.cell 0
    have ca1 : w7.cell? ⟨A, 1, none⟩ = some (.int .i64 g'.slots) := HA_w7.out.cell 1
    have ca2 : w7.cell? ⟨A, 2, none⟩ = some (.int .i64 g'.begin_) := HA_w7.out.cell 2
    have ca3 : w7.cell? ⟨A, 3, none⟩ = some (.int .i64 g'.mins) := HA_w7.out.cell 3
    have ce0 : w7.cell? ⟨E, 0, none⟩ = some (.int .i64 t.first) := HE_w7.out.cell 0
    have ce1 : w7.cell? ⟨E, 1, none⟩ = some (.int .i64 t.weeks) := HE_w7.out.cell 1
    have ce2 : w7.cell? ⟨E, 2, none⟩ = some (.slice pt t.hols.length ct) := HE_w7.out.cell 2
    have cr0 : w7.cell? ⟨R, 0, none⟩ = some (.int .i64 0) := HR_w7.out.cell 0
    have cr1 : w7.cell? ⟨R, 1, none⟩ = some (.int .i64 0) := HR_w7.out.cell 1
    have cr2 : w7.cell? ⟨R, 2, none⟩ = some (.int .i64 0) := HR_w7.out.cell 2
    have cr3 : w7.cell? ⟨R, 3, none⟩ = some (.int .i64 0) := HR_w7.out.cell 3
    have fr0 := HR_w7.out.frozen 0; have fr1 := HR_w7.out.frozen 1; have fr2 := HR_w7.out.frozen 2; have fr3 := HR_w7.out.frozen 3; have cy0 : w7.cell? ⟨Y, 0, none⟩ = some (.int .i64 0) := HY_w7.out.cell 0
    have cy1 : w7.cell? ⟨Y, 1, none⟩ = some (.int .i64 0) := HY_w7.out.cell 1
    have cy2 : w7.cell? ⟨Y, 2, none⟩ = some (.slice none 0 0) := HY_w7.out.cell 2
    have fy0 := HY_w7.out.frozen 0; have fy1 := HY_w7.out.frozen 1; have fy2 := HY_w7.out.frozen 2; go_region
    clear ca0 ca1 ca2 ca3; clear ce0 ce1 ce2; clear cr0 fr0 cr1 fr1 cr2 fr2 cr3 fr3 cy0 fy0 cy1 fy1 cy2 fy2; obtain ⟨X1, hX1, hB1, hE1⟩ := fillS HR_w7.out HS_w7.out lR bR [.int .i64 g'.days, .int .i64 g'.slots, .int .i64 g'.begin_, .int .i64 g'.mins] rfl
    have hY1 : Blk Y #[.int .i64 0, .int .i64 0, .slice none 0 0] 93 X1 := by rw [hX1]; exact Blk.puts_other nYR _ 0 _ HY_w7.out
    have hV1 : RowI w.heap.size X1 (.slice pt t.hols.length ct) (t).hols := by rw [hX1]; exact row_setAll (by decide) _ 0 _ _ HV_w7.out HR_w7.out
    have hO1 : RowSS w.heap.size X1 (u) (ls) := by rw [hX1]; exact RowSS.setAll HO_w7.out HR_w7.out (by decide) (by decide) _
    obtain ⟨X2, hX2, hB2, hE2⟩ := fillS hY1 hE1 lY bY [.int .i64 t.first, .int .i64 t.weeks, .slice pt t.hols.length ct] rfl
    have hB3 : Blk R #[.int .i64 g'.days, .int .i64 g'.slots, .int .i64 g'.begin_, .int .i64 g'.mins] 90 X2 := by rw [hX2]; exact Blk.puts_other nYR.symm _ 0 _ hB1
    have HV3 := Lib.hid (show RowI w.heap.size X2.drew (.slice pt t.hols.length ct) (t).hols from by show RowI w.heap.size X2 _ _; rw [hX2]; exact row_setAll (by decide) _ 0 _ _ hV1 hY1)
    have HO3 := Lib.hid (show RowSS w.heap.size X2.drew (u) (ls) from (show RowSS w.heap.size X2 (u) (ls) from by rw [hX2]; exact RowSS.setAll hO1 hY1 (by decide) (by decide) _).drew')
    have HE3 := Lib.hid (show Sofar b w X2.drew from ⟨but_draw hE2.but, dice_draw hE2.dice⟩)
    simp only [setAll, Nat.zero_add] at hX1 hX2
    rw [← hX1, ← hX2]; clear hX1 hX2 hE1 hE2 hV1 hO1 hY1 hB1; have r0 : X2.drew.cell? ⟨R, 0, none⟩ = some (.int .i64 g'.days) := hB3.draw.cell 0
    have r1 : X2.drew.cell? ⟨R, 1, none⟩ = some (.int .i64 g'.slots) := hB3.draw.cell 1
    have r2 : X2.drew.cell? ⟨R, 2, none⟩ = some (.int .i64 g'.begin_) := hB3.draw.cell 2
    have r3 : X2.drew.cell? ⟨R, 3, none⟩ = some (.int .i64 g'.mins) := hB3.draw.cell 3
    have s0 : X2.drew.cell? ⟨Y, 0, none⟩ = some (.int .i64 t.first) := hB2.draw.cell 0
    have s1 : X2.drew.cell? ⟨Y, 1, none⟩ = some (.int .i64 t.weeks) := hB2.draw.cell 1
    have s2 : X2.drew.cell? ⟨Y, 2, none⟩ = some (.slice pt t.hols.length ct) := hB2.draw.cell 2
    clear hB2 hB3; obtain ⟨X3, hX3⟩ : ∃ X, X = X2.drew := ⟨_, rfl⟩
    rw [← hX3] at HV3 HO3 HE3 r0 r1 r2 r3 s0 s1 s2 ⊢
    clear hX3; go_wp2_with fail
    refine bodyPost_ret (v := .tuple #[.agg #[.int .i64 g'.days, .int .i64 g'.slots, .int .i64 g'.begin_, .int .i64 g'.mins], .agg #[.int .i64 t.first, .int .i64 t.weeks, .slice pt t.hols.length ct], u]) (by simp [results, Tryz.results68, go_sem, r0, r1, r2, r3, s0, s1, s2]) rfl ?_
    exact ⟨g', t, _, _, ls, rfl, HV3.out, by omega, HO3.out, hll, fun q h => by have := HLE.out q h; omega, HE3.out⟩
  · have ce0 : w5.cell? ⟨E, 0, none⟩ = some (.int .i64 t.first) := HE_w5.out.cell 0
    have ce1 : w5.cell? ⟨E, 1, none⟩ = some (.int .i64 t.weeks) := HE_w5.out.cell 1
    have ce2 : w5.cell? ⟨E, 2, none⟩ = some (.slice pt t.hols.length ct) := HE_w5.out.cell 2
    go_wp2_with fail
    refine (show Calls Tryz.prog 132 #[.pointer (some ⟨b, 0, none⟩), .agg #[.int .i64 t.first, .int .i64 t.weeks, .slice pt t.hols.length ct]] w5 _ from oddterm132 b w.heap.size t pt ct w5 HS_w5.out.dice HWB.out HS_w5.out.but.size HV_w5.out hvl (by omega) (by omega) (by omega) (by omega)).mono ?_
    rintro e w6 ⟨t', v', rfl, hv', hvl', hs⟩; obtain ⟨pv, cv, hpv⟩ := RowI.slice hv'
    subst hpv; have HW_w6 := Lib.hid hv'; have HS_w6 := Lib.hid (HS_w5.out.trans hs)
    have HR_w6 := Lib.hid (hs.blk HR_w5.out nRb)
    have HY_w6 := Lib.hid (hs.blk HY_w5.out nYb)
    have HA_w6 := Lib.hid (hs.blk HA_w5.out nAb)
    have HE_w6 := Lib.hid (hs.blk HE_w5.out nEb)
    have HO_w6 := Lib.hid (HO_w5.out.but HWB.out hs.but)
    clear hs hv' HS_w5 HR_w5 HY_w5 HA_w5 HE_w5 HV_w5 HO_w5; unfold trmVal
    clear ce0 ce1 ce2; have ce0 : w6.cell? ⟨E, 0, none⟩ = some (.int .i64 t.first) := HE_w6.out.cell 0
    have ce1 : w6.cell? ⟨E, 1, none⟩ = some (.int .i64 t.weeks) := HE_w6.out.cell 1
    have ce2 : w6.cell? ⟨E, 2, none⟩ = some (.slice pt t.hols.length ct) := HE_w6.out.cell 2
    have fe0 := HE_w6.out.frozen 0; have fe1 := HE_w6.out.frozen 1; have fe2 := HE_w6.out.frozen 2; go_upto_region 12 with (fail)
    clear ce0 ce1 ce2 fe0 fe1 fe2; obtain ⟨w7, hw7, hE7, hS7⟩ := fillS HE_w6.out HS_w6.out lE bE [.int .i64 t'.first, .int .i64 t'.weeks, .slice pv t'.hols.length cv] rfl
    have HE_w7 := Lib.hid hE7; have HS_w7 := Lib.hid hS7; have HR_w7 := Lib.hid (show Blk R #[.int .i64 0, .int .i64 0, .int .i64 0, .int .i64 0] 90 w7 from by rw [hw7]; exact Blk.puts_other nRE _ 0 _ HR_w6.out)
    have HY_w7 := Lib.hid (show Blk Y #[.int .i64 0, .int .i64 0, .slice none 0 0] 93 w7 from by rw [hw7]; exact Blk.puts_other nYE _ 0 _ HY_w6.out)
    have HA_w7 := Lib.hid (show Blk A #[.int .i64 g.days, .int .i64 g.slots, .int .i64 g.begin_, .int .i64 g.mins] 90 w7 from by rw [hw7]; exact Blk.puts_other nAE _ 0 _ HA_w6.out)
    have HV_w7 := Lib.hid (show RowI w.heap.size w7 (.slice pv t'.hols.length cv) t'.hols from by rw [hw7]; exact row_setAll (by decide) _ 0 _ _ HW_w6.out HE_w6.out)
    have HO_w7 := Lib.hid (show RowSS w.heap.size w7 u ls from by rw [hw7]; exact RowSS.setAll HO_w6.out HE_w6.out (by decide) (by decide) _)
    simp only [setAll, Nat.zero_add] at hw7
    rw [← hw7]; clear hw7 hE7 hS7 HR_w6 HY_w6 HA_w6 HE_w6 HW_w6 HO_w6 HS_w6; have ca0 : w7.cell? ⟨A, 0, none⟩ = some (.int .i64 g.days) := HA_w7.out.cell 0
    have ca1 : w7.cell? ⟨A, 1, none⟩ = some (.int .i64 g.slots) := HA_w7.out.cell 1
    have ca2 : w7.cell? ⟨A, 2, none⟩ = some (.int .i64 g.begin_) := HA_w7.out.cell 2
    have ca3 : w7.cell? ⟨A, 3, none⟩ = some (.int .i64 g.mins) := HA_w7.out.cell 3
    have ce0 : w7.cell? ⟨E, 0, none⟩ = some (.int .i64 t'.first) := HE_w7.out.cell 0
    have ce1 : w7.cell? ⟨E, 1, none⟩ = some (.int .i64 t'.weeks) := HE_w7.out.cell 1
    have ce2 : w7.cell? ⟨E, 2, none⟩ = some (.slice pv t'.hols.length cv) := HE_w7.out.cell 2
    have cr0 : w7.cell? ⟨R, 0, none⟩ = some (.int .i64 0) := HR_w7.out.cell 0
    have cr1 : w7.cell? ⟨R, 1, none⟩ = some (.int .i64 0) := HR_w7.out.cell 1
    have cr2 : w7.cell? ⟨R, 2, none⟩ = some (.int .i64 0) := HR_w7.out.cell 2
    have cr3 : w7.cell? ⟨R, 3, none⟩ = some (.int .i64 0) := HR_w7.out.cell 3
    have fr0 := HR_w7.out.frozen 0; have fr1 := HR_w7.out.frozen 1; have fr2 := HR_w7.out.frozen 2; have fr3 := HR_w7.out.frozen 3; have cy0 : w7.cell? ⟨Y, 0, none⟩ = some (.int .i64 0) := HY_w7.out.cell 0
    have cy1 : w7.cell? ⟨Y, 1, none⟩ = some (.int .i64 0) := HY_w7.out.cell 1
    have cy2 : w7.cell? ⟨Y, 2, none⟩ = some (.slice none 0 0) := HY_w7.out.cell 2
    have fy0 := HY_w7.out.frozen 0; have fy1 := HY_w7.out.frozen 1; have fy2 := HY_w7.out.frozen 2; go_region
    clear ca0 ca1 ca2 ca3; clear ce0 ce1 ce2; clear cr0 fr0 cr1 fr1 cr2 fr2 cr3 fr3 cy0 fy0 cy1 fy1 cy2 fy2; obtain ⟨X1, hX1, hB1, hE1⟩ := fillS HR_w7.out HS_w7.out lR bR [.int .i64 g.days, .int .i64 g.slots, .int .i64 g.begin_, .int .i64 g.mins] rfl
    have hY1 : Blk Y #[.int .i64 0, .int .i64 0, .slice none 0 0] 93 X1 := by rw [hX1]; exact Blk.puts_other nYR _ 0 _ HY_w7.out
    have hV1 : RowI w.heap.size X1 (.slice pv t'.hols.length cv) (t').hols := by rw [hX1]; exact row_setAll (by decide) _ 0 _ _ HV_w7.out HR_w7.out
    have hO1 : RowSS w.heap.size X1 (u) (ls) := by rw [hX1]; exact RowSS.setAll HO_w7.out HR_w7.out (by decide) (by decide) _
    obtain ⟨X2, hX2, hB2, hE2⟩ := fillS hY1 hE1 lY bY [.int .i64 t'.first, .int .i64 t'.weeks, .slice pv t'.hols.length cv] rfl
    have hB3 : Blk R #[.int .i64 g.days, .int .i64 g.slots, .int .i64 g.begin_, .int .i64 g.mins] 90 X2 := by rw [hX2]; exact Blk.puts_other nYR.symm _ 0 _ hB1
    have HV3 := Lib.hid (show RowI w.heap.size X2.drew (.slice pv t'.hols.length cv) (t').hols from by show RowI w.heap.size X2 _ _; rw [hX2]; exact row_setAll (by decide) _ 0 _ _ hV1 hY1)
    have HO3 := Lib.hid (show RowSS w.heap.size X2.drew (u) (ls) from (show RowSS w.heap.size X2 (u) (ls) from by rw [hX2]; exact RowSS.setAll hO1 hY1 (by decide) (by decide) _).drew')
    have HE3 := Lib.hid (show Sofar b w X2.drew from ⟨but_draw hE2.but, dice_draw hE2.dice⟩)
    simp only [setAll, Nat.zero_add] at hX1 hX2
    rw [← hX1, ← hX2]; clear hX1 hX2 hE1 hE2 hV1 hO1 hY1 hB1; have r0 : X2.drew.cell? ⟨R, 0, none⟩ = some (.int .i64 g.days) := hB3.draw.cell 0
    have r1 : X2.drew.cell? ⟨R, 1, none⟩ = some (.int .i64 g.slots) := hB3.draw.cell 1
    have r2 : X2.drew.cell? ⟨R, 2, none⟩ = some (.int .i64 g.begin_) := hB3.draw.cell 2
    have r3 : X2.drew.cell? ⟨R, 3, none⟩ = some (.int .i64 g.mins) := hB3.draw.cell 3
    have s0 : X2.drew.cell? ⟨Y, 0, none⟩ = some (.int .i64 t'.first) := hB2.draw.cell 0
    have s1 : X2.drew.cell? ⟨Y, 1, none⟩ = some (.int .i64 t'.weeks) := hB2.draw.cell 1
    have s2 : X2.drew.cell? ⟨Y, 2, none⟩ = some (.slice pv t'.hols.length cv) := hB2.draw.cell 2
    clear hB2 hB3; obtain ⟨X3, hX3⟩ : ∃ X, X = X2.drew := ⟨_, rfl⟩
    rw [← hX3] at HV3 HO3 HE3 r0 r1 r2 r3 s0 s1 s2 ⊢
    clear hX3; go_wp2_with fail
    refine bodyPost_ret (v := .tuple #[.agg #[.int .i64 g.days, .int .i64 g.slots, .int .i64 g.begin_, .int .i64 g.mins], .agg #[.int .i64 t'.first, .int .i64 t'.weeks, .slice pv t'.hols.length cv], u]) (by simp [results, Tryz.results68, go_sem, r0, r1, r2, r3, s0, s1, s2]) rfl ?_
    exact ⟨g, t', _, _, ls, rfl, HV3.out, hvl', HO3.out, hll, fun q h => by have := HLE.out q h; omega, HE3.out⟩
  · obtain ⟨pu, cu, hu⟩ := ownsRow_len HO_w5.out.row
    subst hu; by_cases hne : ls = []
    · subst hne; go_upto_region 12 with (fail)
      have ca0 : w5.cell? ⟨A, 0, none⟩ = some (.int .i64 g.days) := HA_w5.out.cell 0
      have ca1 : w5.cell? ⟨A, 1, none⟩ = some (.int .i64 g.slots) := HA_w5.out.cell 1
      have ca2 : w5.cell? ⟨A, 2, none⟩ = some (.int .i64 g.begin_) := HA_w5.out.cell 2
      have ca3 : w5.cell? ⟨A, 3, none⟩ = some (.int .i64 g.mins) := HA_w5.out.cell 3
      have ce0 : w5.cell? ⟨E, 0, none⟩ = some (.int .i64 t.first) := HE_w5.out.cell 0
      have ce1 : w5.cell? ⟨E, 1, none⟩ = some (.int .i64 t.weeks) := HE_w5.out.cell 1
      have ce2 : w5.cell? ⟨E, 2, none⟩ = some (.slice pt t.hols.length ct) := HE_w5.out.cell 2
      have cr0 : w5.cell? ⟨R, 0, none⟩ = some (.int .i64 0) := HR_w5.out.cell 0
      have cr1 : w5.cell? ⟨R, 1, none⟩ = some (.int .i64 0) := HR_w5.out.cell 1
      have cr2 : w5.cell? ⟨R, 2, none⟩ = some (.int .i64 0) := HR_w5.out.cell 2
      have cr3 : w5.cell? ⟨R, 3, none⟩ = some (.int .i64 0) := HR_w5.out.cell 3
      have fr0 := HR_w5.out.frozen 0; have fr1 := HR_w5.out.frozen 1; have fr2 := HR_w5.out.frozen 2; have fr3 := HR_w5.out.frozen 3; have cy0 : w5.cell? ⟨Y, 0, none⟩ = some (.int .i64 0) := HY_w5.out.cell 0
      have cy1 : w5.cell? ⟨Y, 1, none⟩ = some (.int .i64 0) := HY_w5.out.cell 1
      have cy2 : w5.cell? ⟨Y, 2, none⟩ = some (.slice none 0 0) := HY_w5.out.cell 2
      have fy0 := HY_w5.out.frozen 0; have fy1 := HY_w5.out.frozen 1; have fy2 := HY_w5.out.frozen 2; go_region
      clear ca0 ca1 ca2 ca3; clear ce0 ce1 ce2; clear cr0 fr0 cr1 fr1 cr2 fr2 cr3 fr3 cy0 fy0 cy1 fy1 cy2 fy2; obtain ⟨X1, hX1, hB1, hE1⟩ := fillS HR_w5.out HS_w5.out lR bR [.int .i64 g.days, .int .i64 g.slots, .int .i64 g.begin_, .int .i64 g.mins] rfl
      have hY1 : Blk Y #[.int .i64 0, .int .i64 0, .slice none 0 0] 93 X1 := by rw [hX1]; exact Blk.puts_other nYR _ 0 _ HY_w5.out
      have hV1 : RowI w.heap.size X1 (.slice pt t.hols.length ct) (t).hols := by rw [hX1]; exact row_setAll (by decide) _ 0 _ _ HV_w5.out HR_w5.out
      have hO1 : RowSS w.heap.size X1 (.slice pu ([] : List (Value × List Ses)).length cu) ([]) := by rw [hX1]; exact RowSS.setAll HO_w5.out HR_w5.out (by decide) (by decide) _
      obtain ⟨X2, hX2, hB2, hE2⟩ := fillS hY1 hE1 lY bY [.int .i64 t.first, .int .i64 t.weeks, .slice pt t.hols.length ct] rfl
      have hB3 : Blk R #[.int .i64 g.days, .int .i64 g.slots, .int .i64 g.begin_, .int .i64 g.mins] 90 X2 := by rw [hX2]; exact Blk.puts_other nYR.symm _ 0 _ hB1
      have HV3 := Lib.hid (show RowI w.heap.size X2.drew (.slice pt t.hols.length ct) (t).hols from by show RowI w.heap.size X2 _ _; rw [hX2]; exact row_setAll (by decide) _ 0 _ _ hV1 hY1)
      have HO3 := Lib.hid (show RowSS w.heap.size X2.drew (.slice pu ([] : List (Value × List Ses)).length cu) ([]) from (show RowSS w.heap.size X2 (.slice pu ([] : List (Value × List Ses)).length cu) ([]) from by rw [hX2]; exact RowSS.setAll hO1 hY1 (by decide) (by decide) _).drew')
      have HE3 := Lib.hid (show Sofar b w X2.drew from ⟨but_draw hE2.but, dice_draw hE2.dice⟩)
      simp only [setAll, Nat.zero_add] at hX1 hX2
      rw [← hX1, ← hX2]; clear hX1 hX2 hE1 hE2 hV1 hO1 hY1 hB1; have r0 : X2.drew.cell? ⟨R, 0, none⟩ = some (.int .i64 g.days) := hB3.draw.cell 0
      have r1 : X2.drew.cell? ⟨R, 1, none⟩ = some (.int .i64 g.slots) := hB3.draw.cell 1
      have r2 : X2.drew.cell? ⟨R, 2, none⟩ = some (.int .i64 g.begin_) := hB3.draw.cell 2
      have r3 : X2.drew.cell? ⟨R, 3, none⟩ = some (.int .i64 g.mins) := hB3.draw.cell 3
      have s0 : X2.drew.cell? ⟨Y, 0, none⟩ = some (.int .i64 t.first) := hB2.draw.cell 0
      have s1 : X2.drew.cell? ⟨Y, 1, none⟩ = some (.int .i64 t.weeks) := hB2.draw.cell 1
      have s2 : X2.drew.cell? ⟨Y, 2, none⟩ = some (.slice pt t.hols.length ct) := hB2.draw.cell 2
      clear hB2 hB3; obtain ⟨X3, hX3⟩ : ∃ X, X = X2.drew := ⟨_, rfl⟩
      rw [← hX3] at HV3 HO3 HE3 r0 r1 r2 r3 s0 s1 s2 ⊢
      clear hX3; go_wp2_with fail
      refine bodyPost_ret (v := .tuple #[.agg #[.int .i64 g.days, .int .i64 g.slots, .int .i64 g.begin_, .int .i64 g.mins], .agg #[.int .i64 t.first, .int .i64 t.weeks, .slice pt t.hols.length ct], .slice pu ([] : List (Value × List Ses)).length cu]) (by simp [results, Tryz.results68, go_sem, r0, r1, r2, r3, s0, s1, s2]) rfl ?_
      exact ⟨g, t, _, _, [], rfl, HV3.out, by omega, HO3.out, by decide, (fun q h => by cases h), HE3.out⟩
    obtain ⟨j, hj⟩ : ∃ j, ls.length = j + 1 := ⟨ls.length - 1, by have := List.length_pos_iff.2 hne; omega⟩
    obtain ⟨z, hz⟩ : ∃ z, ls[j]? = some z := ⟨_, List.getElem?_eq_getElem (by omega)⟩
    have hO := HO_w5.out; rw [hj] at hO
    obtain ⟨G, hG, hpu⟩ : ∃ G, w.heap.size ≤ G ∧ pu = some ⟨G, 0, none⟩ := by
      rcases HO_w5.out.row.2 with ⟨_, h0⟩ | ⟨G, cap, cur, hv, hlo, _⟩
      · omega
      · exact ⟨G, hlo, by injection hv⟩
    subst hpu; have hzc : w5.cell? ⟨G, j, none⟩ = some z.1 := by
      have := World.ownsRow.cells HO_w5.out.row (g := G) rfl j z.1 (by rw [List.getElem?_map, hz]; rfl)
      rw [Addr.add_lit] at this
      simpa using this
    have hzr := HO_w5.out.each z (List.mem_of_getElem? hz)
    have hzl := HLE.out z (List.mem_of_getElem? hz)
    obtain ⟨pq, cq, hzv⟩ := hzr.slice
    rw [hzv] at hzc hzr
    have HZV := Lib.hid hzv; have HZR := Lib.hid hzr; have hj4 : j < 4 := by omega
    have hjl : (j : Int) + 1 - 1 = (j : Int) := by omega
    have HJ := Lib.hid hj; have HZ := Lib.hid hz; rw [hj] at HO_w5 ⊢
    clear hj hz hzr hO hzv hne; go_wp2_with fail
    refine (oddses133 b w.heap.size z.2 pq cq w5 HS_w5.out.dice HWB.out HS_w5.out.but.size HZR.out hzl).mono ?_
    rintro e w6 ⟨v', ys, rfl, hr, hyl, hs⟩; obtain ⟨pv, cv, hv'⟩ := RowS.slice hr
    subst hv'; have HR6 := Lib.hid (RowS.mono hr HS_w5.out.but.size)
    have HS_w6 := Lib.hid (HS_w5.out.trans hs)
    have HR_w6 := Lib.hid (hs.blk HR_w5.out nRb)
    have HY_w6 := Lib.hid (hs.blk HY_w5.out nYb)
    have HA_w6 := Lib.hid (hs.blk HA_w5.out nAb)
    have HE_w6 := Lib.hid (hs.blk HE_w5.out nEb)
    have HV_w6 := Lib.hid (show RowI w.heap.size w6 _ _ from row_but HV_w5.out HWB.out hs.but)
    have HO_w6 := Lib.hid (HO_w5.out.but HWB.out hs.but)
    clear hs hr HS_w5 HR_w5 HY_w5 HA_w5 HE_w5 HV_w5 HO_w5 hzc HZR; have hbk : ∃ cur, Blk G cur 110 w6 := by
      have hO : RowSS w.heap.size w6 (.slice (some ⟨G, 0, none⟩) ls.length cu) ls := by rw [HJ.out]; exact HO_w6.out
      obtain ⟨cur, hb, _⟩ := row_blk hO.row
      exact ⟨cur, hb⟩
    obtain ⟨cur, hbk⟩ := hbk; have hbG : b < G := by omega
    have hzc : w6.cell? ⟨G, j, none⟩ = some (.slice pq z.2.length cq) := by
      rw [← HZV.out]; have := World.ownsRow.cells HO_w6.out.row (g := G) rfl j z.1 (by rw [List.getElem?_map, HZ.out]; rfl)
      rw [Addr.add_lit] at this
      simpa using this
    have hzf : w6.frozen? ⟨G, j, none⟩ = false := hbk.frozen j
    have HBK := Lib.hid hbk; clear hbk; go_upto_region 12 with (fail)
    clear hzc hzf; obtain ⟨w7, hw7⟩ : ∃ X, X = w6.setCell ⟨G, j, none⟩ (.slice pv ys.length cv) := ⟨_, rfl⟩
    have HS_w7 := Lib.hid (show Sofar b w w7 from by rw [hw7]; exact HS_w6.out.set hG hbG _ _)
    have HR_w7 := Lib.hid (show Blk R #[.int .i64 0, .int .i64 0, .int .i64 0, .int .i64 0] 90 w7 from by rw [hw7]; exact HR_w6.out.set_other (HR_w6.out.ne HBK.out (by decide)) _ _)
    have HY_w7 := Lib.hid (show Blk Y #[.int .i64 0, .int .i64 0, .slice none 0 0] 93 w7 from by rw [hw7]; exact HY_w6.out.set_other (HY_w6.out.ne HBK.out (by decide)) _ _)
    have HA_w7 := Lib.hid (show Blk A #[.int .i64 g.days, .int .i64 g.slots, .int .i64 g.begin_, .int .i64 g.mins] 90 w7 from by rw [hw7]; exact HA_w6.out.set_other (HA_w6.out.ne HBK.out (by decide)) _ _)
    have HE_w7 := Lib.hid (show Blk E #[.int .i64 t.first, .int .i64 t.weeks, .slice pt t.hols.length ct] 93 w7 from by rw [hw7]; exact HE_w6.out.set_other (HE_w6.out.ne HBK.out (by decide)) _ _)
    have HV_w7 := Lib.hid (show RowI w.heap.size w7 (.slice pt t.hols.length ct) t.hols from by rw [hw7]; exact row_set HV_w6.out HBK.out (by decide) _ _)
    have HO_w7 := Lib.hid (show RowSS w.heap.size w7 (.slice (some ⟨G, 0, none⟩) (j + 1) cu) (ls.set j (.slice pv ys.length cv, ys)) from by rw [hw7]; exact RowSS.put HO_w6.out j (.slice pv ys.length cv, ys) HR6.out)
    rw [← hw7]; clear hw7 HS_w6 HR_w6 HY_w6 HA_w6 HE_w6 HV_w6 HO_w6; have HLS := Lib.hid (show ∀ q ∈ ls.set j (.slice pv ys.length cv, ys), q.2.length ≤ 200 from fun q h => by
      rcases List.mem_or_eq_of_mem_set h with h | h
      · have := HLE.out q h; omega
      · subst h; exact hyl)
    have ca0 : w7.cell? ⟨A, 0, none⟩ = some (.int .i64 g.days) := HA_w7.out.cell 0
    have ca1 : w7.cell? ⟨A, 1, none⟩ = some (.int .i64 g.slots) := HA_w7.out.cell 1
    have ca2 : w7.cell? ⟨A, 2, none⟩ = some (.int .i64 g.begin_) := HA_w7.out.cell 2
    have ca3 : w7.cell? ⟨A, 3, none⟩ = some (.int .i64 g.mins) := HA_w7.out.cell 3
    have ce0 : w7.cell? ⟨E, 0, none⟩ = some (.int .i64 t.first) := HE_w7.out.cell 0
    have ce1 : w7.cell? ⟨E, 1, none⟩ = some (.int .i64 t.weeks) := HE_w7.out.cell 1
    have ce2 : w7.cell? ⟨E, 2, none⟩ = some (.slice pt t.hols.length ct) := HE_w7.out.cell 2
    have cr0 : w7.cell? ⟨R, 0, none⟩ = some (.int .i64 0) := HR_w7.out.cell 0
    have cr1 : w7.cell? ⟨R, 1, none⟩ = some (.int .i64 0) := HR_w7.out.cell 1
    have cr2 : w7.cell? ⟨R, 2, none⟩ = some (.int .i64 0) := HR_w7.out.cell 2
    have cr3 : w7.cell? ⟨R, 3, none⟩ = some (.int .i64 0) := HR_w7.out.cell 3
    have fr0 := HR_w7.out.frozen 0; have fr1 := HR_w7.out.frozen 1; have fr2 := HR_w7.out.frozen 2; have fr3 := HR_w7.out.frozen 3; have cy0 : w7.cell? ⟨Y, 0, none⟩ = some (.int .i64 0) := HY_w7.out.cell 0
    have cy1 : w7.cell? ⟨Y, 1, none⟩ = some (.int .i64 0) := HY_w7.out.cell 1
    have cy2 : w7.cell? ⟨Y, 2, none⟩ = some (.slice none 0 0) := HY_w7.out.cell 2
    have fy0 := HY_w7.out.frozen 0; have fy1 := HY_w7.out.frozen 1; have fy2 := HY_w7.out.frozen 2; go_region
    clear ca0 ca1 ca2 ca3; clear ce0 ce1 ce2; clear cr0 fr0 cr1 fr1 cr2 fr2 cr3 fr3 cy0 fy0 cy1 fy1 cy2 fy2; obtain ⟨X1, hX1, hB1, hE1⟩ := fillS HR_w7.out HS_w7.out lR bR [.int .i64 g.days, .int .i64 g.slots, .int .i64 g.begin_, .int .i64 g.mins] rfl
    have hY1 : Blk Y #[.int .i64 0, .int .i64 0, .slice none 0 0] 93 X1 := by rw [hX1]; exact Blk.puts_other nYR _ 0 _ HY_w7.out
    have hV1 : RowI w.heap.size X1 (.slice pt t.hols.length ct) (t).hols := by rw [hX1]; exact row_setAll (by decide) _ 0 _ _ HV_w7.out HR_w7.out
    have hO1 : RowSS w.heap.size X1 (.slice (some ⟨G, 0, none⟩) (j + 1) cu) ((ls.set j (.slice pv ys.length cv, ys))) := by rw [hX1]; exact RowSS.setAll HO_w7.out HR_w7.out (by decide) (by decide) _
    obtain ⟨X2, hX2, hB2, hE2⟩ := fillS hY1 hE1 lY bY [.int .i64 t.first, .int .i64 t.weeks, .slice pt t.hols.length ct] rfl
    have hB3 : Blk R #[.int .i64 g.days, .int .i64 g.slots, .int .i64 g.begin_, .int .i64 g.mins] 90 X2 := by rw [hX2]; exact Blk.puts_other nYR.symm _ 0 _ hB1
    have HV3 := Lib.hid (show RowI w.heap.size X2.drew (.slice pt t.hols.length ct) (t).hols from by show RowI w.heap.size X2 _ _; rw [hX2]; exact row_setAll (by decide) _ 0 _ _ hV1 hY1)
    have HO3 := Lib.hid (show RowSS w.heap.size X2.drew (.slice (some ⟨G, 0, none⟩) (j + 1) cu) ((ls.set j (.slice pv ys.length cv, ys))) from (show RowSS w.heap.size X2 (.slice (some ⟨G, 0, none⟩) (j + 1) cu) ((ls.set j (.slice pv ys.length cv, ys))) from by rw [hX2]; exact RowSS.setAll hO1 hY1 (by decide) (by decide) _).drew')
    have HE3 := Lib.hid (show Sofar b w X2.drew from ⟨but_draw hE2.but, dice_draw hE2.dice⟩)
    simp only [setAll, Nat.zero_add] at hX1 hX2
    rw [← hX1, ← hX2]; clear hX1 hX2 hE1 hE2 hV1 hO1 hY1 hB1; have r0 : X2.drew.cell? ⟨R, 0, none⟩ = some (.int .i64 g.days) := hB3.draw.cell 0
    have r1 : X2.drew.cell? ⟨R, 1, none⟩ = some (.int .i64 g.slots) := hB3.draw.cell 1
    have r2 : X2.drew.cell? ⟨R, 2, none⟩ = some (.int .i64 g.begin_) := hB3.draw.cell 2
    have r3 : X2.drew.cell? ⟨R, 3, none⟩ = some (.int .i64 g.mins) := hB3.draw.cell 3
    have s0 : X2.drew.cell? ⟨Y, 0, none⟩ = some (.int .i64 t.first) := hB2.draw.cell 0
    have s1 : X2.drew.cell? ⟨Y, 1, none⟩ = some (.int .i64 t.weeks) := hB2.draw.cell 1
    have s2 : X2.drew.cell? ⟨Y, 2, none⟩ = some (.slice pt t.hols.length ct) := hB2.draw.cell 2
    clear hB2 hB3; obtain ⟨X3, hX3⟩ : ∃ X, X = X2.drew := ⟨_, rfl⟩
    rw [← hX3] at HV3 HO3 HE3 r0 r1 r2 r3 s0 s1 s2 ⊢
    clear hX3; go_wp2_with fail
    refine bodyPost_ret (v := .tuple #[.agg #[.int .i64 g.days, .int .i64 g.slots, .int .i64 g.begin_, .int .i64 g.mins], .agg #[.int .i64 t.first, .int .i64 t.weeks, .slice pt t.hols.length ct], .slice (some ⟨G, 0, none⟩) (j + 1) cu]) (by simp [results, Tryz.results68, go_sem, r0, r1, r2, r3, s0, s1, s2]) rfl ?_
    exact ⟨g, t, _, _, (ls.set j (.slice pv ys.length cv, ys)), rfl, HV3.out, by omega, HO3.out, by rw [List.length_set]; exact hll, HLS.out, HE3.out⟩
  · have h0 : (q == 0) = false := beq_eq_false_iff_ne.2 (by omega)
    have h1 : (q == 1) = false := beq_eq_false_iff_ne.2 (by omega)
    have h2 : (q == 2) = false := beq_eq_false_iff_ne.2 (by omega)
    go_upto_region 12 with (fail)
    have ca0 : w5.cell? ⟨A, 0, none⟩ = some (.int .i64 g.days) := HA_w5.out.cell 0
    have ca1 : w5.cell? ⟨A, 1, none⟩ = some (.int .i64 g.slots) := HA_w5.out.cell 1
    have ca2 : w5.cell? ⟨A, 2, none⟩ = some (.int .i64 g.begin_) := HA_w5.out.cell 2
    have ca3 : w5.cell? ⟨A, 3, none⟩ = some (.int .i64 g.mins) := HA_w5.out.cell 3
    have ce0 : w5.cell? ⟨E, 0, none⟩ = some (.int .i64 t.first) := HE_w5.out.cell 0
    have ce1 : w5.cell? ⟨E, 1, none⟩ = some (.int .i64 t.weeks) := HE_w5.out.cell 1
    have ce2 : w5.cell? ⟨E, 2, none⟩ = some (.slice pt t.hols.length ct) := HE_w5.out.cell 2
    have cr0 : w5.cell? ⟨R, 0, none⟩ = some (.int .i64 0) := HR_w5.out.cell 0
    have cr1 : w5.cell? ⟨R, 1, none⟩ = some (.int .i64 0) := HR_w5.out.cell 1
    have cr2 : w5.cell? ⟨R, 2, none⟩ = some (.int .i64 0) := HR_w5.out.cell 2
    have cr3 : w5.cell? ⟨R, 3, none⟩ = some (.int .i64 0) := HR_w5.out.cell 3
    have fr0 := HR_w5.out.frozen 0; have fr1 := HR_w5.out.frozen 1; have fr2 := HR_w5.out.frozen 2; have fr3 := HR_w5.out.frozen 3; have cy0 : w5.cell? ⟨Y, 0, none⟩ = some (.int .i64 0) := HY_w5.out.cell 0
    have cy1 : w5.cell? ⟨Y, 1, none⟩ = some (.int .i64 0) := HY_w5.out.cell 1
    have cy2 : w5.cell? ⟨Y, 2, none⟩ = some (.slice none 0 0) := HY_w5.out.cell 2
    have fy0 := HY_w5.out.frozen 0; have fy1 := HY_w5.out.frozen 1; have fy2 := HY_w5.out.frozen 2; go_region
    clear ca0 ca1 ca2 ca3; clear ce0 ce1 ce2; clear cr0 fr0 cr1 fr1 cr2 fr2 cr3 fr3 cy0 fy0 cy1 fy1 cy2 fy2; obtain ⟨X1, hX1, hB1, hE1⟩ := fillS HR_w5.out HS_w5.out lR bR [.int .i64 g.days, .int .i64 g.slots, .int .i64 g.begin_, .int .i64 g.mins] rfl
    have hY1 : Blk Y #[.int .i64 0, .int .i64 0, .slice none 0 0] 93 X1 := by rw [hX1]; exact Blk.puts_other nYR _ 0 _ HY_w5.out
    have hV1 : RowI w.heap.size X1 (.slice pt t.hols.length ct) (t).hols := by rw [hX1]; exact row_setAll (by decide) _ 0 _ _ HV_w5.out HR_w5.out
    have hO1 : RowSS w.heap.size X1 (u) (ls) := by rw [hX1]; exact RowSS.setAll HO_w5.out HR_w5.out (by decide) (by decide) _
    obtain ⟨X2, hX2, hB2, hE2⟩ := fillS hY1 hE1 lY bY [.int .i64 t.first, .int .i64 t.weeks, .slice pt t.hols.length ct] rfl
    have hB3 : Blk R #[.int .i64 g.days, .int .i64 g.slots, .int .i64 g.begin_, .int .i64 g.mins] 90 X2 := by rw [hX2]; exact Blk.puts_other nYR.symm _ 0 _ hB1
    have HV3 := Lib.hid (show RowI w.heap.size X2.drew (.slice pt t.hols.length ct) (t).hols from by show RowI w.heap.size X2 _ _; rw [hX2]; exact row_setAll (by decide) _ 0 _ _ hV1 hY1)
    have HO3 := Lib.hid (show RowSS w.heap.size X2.drew (u) (ls) from (show RowSS w.heap.size X2 (u) (ls) from by rw [hX2]; exact RowSS.setAll hO1 hY1 (by decide) (by decide) _).drew')
    have HE3 := Lib.hid (show Sofar b w X2.drew from ⟨but_draw hE2.but, dice_draw hE2.dice⟩)
    simp only [setAll, Nat.zero_add] at hX1 hX2
    rw [← hX1, ← hX2]; clear hX1 hX2 hE1 hE2 hV1 hO1 hY1 hB1; have r0 : X2.drew.cell? ⟨R, 0, none⟩ = some (.int .i64 g.days) := hB3.draw.cell 0
    have r1 : X2.drew.cell? ⟨R, 1, none⟩ = some (.int .i64 g.slots) := hB3.draw.cell 1
    have r2 : X2.drew.cell? ⟨R, 2, none⟩ = some (.int .i64 g.begin_) := hB3.draw.cell 2
    have r3 : X2.drew.cell? ⟨R, 3, none⟩ = some (.int .i64 g.mins) := hB3.draw.cell 3
    have s0 : X2.drew.cell? ⟨Y, 0, none⟩ = some (.int .i64 t.first) := hB2.draw.cell 0
    have s1 : X2.drew.cell? ⟨Y, 1, none⟩ = some (.int .i64 t.weeks) := hB2.draw.cell 1
    have s2 : X2.drew.cell? ⟨Y, 2, none⟩ = some (.slice pt t.hols.length ct) := hB2.draw.cell 2
    clear hB2 hB3; obtain ⟨X3, hX3⟩ : ∃ X, X = X2.drew := ⟨_, rfl⟩
    rw [← hX3] at HV3 HO3 HE3 r0 r1 r2 r3 s0 s1 s2 ⊢
    clear hX3; go_wp2_with fail
    refine bodyPost_ret (v := .tuple #[.agg #[.int .i64 g.days, .int .i64 g.slots, .int .i64 g.begin_, .int .i64 g.mins], .agg #[.int .i64 t.first, .int .i64 t.weeks, .slice pt t.hols.length ct], u]) (by simp [results, Tryz.results68, go_sem, r0, r1, r2, r3, s0, s1, s2]) rfl ?_
    exact ⟨g, t, _, _, ls, rfl, HV3.out, by omega, HO3.out, hll, fun q h => by have := HLE.out q h; omega, HE3.out⟩
end Go.Proofs.YtageielcdebjlaaGreatDoor
