/- timetablelaw40.some: its contract: a feed in new memory, sometimes an odd one. -/
import Derived.Test.YtageielcdebjlaaGreatDoorGenX
namespace Go.Proofs.YtageielcdebjlaaGreatDoor
open Go.RowKit

theorem RowE.mono {lo lo' : Nat} {w : World} {v : Value} {ts : List (Ev × Value × Value)} (h : RowE lo w v ts) (hb : lo' ≤ lo) : RowE lo' w v ts := ⟨ownsRow_mono h.row hb, fun t ht => (h.ref t ht).mono hb⟩

set_option maxHeartbeats 16000000 in
set_option maxRecDepth 100000 in
theorem some45 (b : Nat) (w : World) (hd : Dice b w) : Calls Tryz.prog 45 #[.pointer (some ⟨b, 0, none⟩)] w (FeedO b 20 w.heap.size w) := by
  have hblt := hd.lt; have hRb : w.heap.size ≠ b := by omega
  have HR0 := Lib.hid (Blk.new w #[.string ⟨#[]⟩, .int .i64 0, .slice none 0 0] 26)
  have HK0 := Lib.hid (but_alloc (But.refl b w.heap.size w) (Nat.le_refl _) (.cells #[.string ⟨#[]⟩, .int .i64 0, .slice none 0 0] 26))
  have HD0 := Lib.hid (dice_alloc hd (.cells #[.string ⟨#[]⟩, .int .i64 0, .slice none 0 0] 26))
  have hs0 : w.heap.size ≤ (w.alloc (.cells #[.string ⟨#[]⟩, .int .i64 0, .slice none 0 0] 26)).heap.size := by simp
  go_enter Tryz.func45, Tryz.ntmps45
  go_wp2_with fail
  refine (feed20 b _ HD0.out).mono ?_
  rintro e w1 ⟨nm, v1, pu, cu, ts, rfl, hn, -, -, hl, E1, hSG, hd1, ho1⟩; have HSG := Lib.hid hSG; have R1 := HR0.out.but ho1 hRb; have K1 := but_then HK0.out ho1 HK0.out.size
  have E1 := E1.mono hs0; have hs1 := K1.size; have hw1b : w1.heap.size ≠ b := by have := hd1.lt; omega
  have hw1R : w.heap.size ≠ w1.heap.size := by have := R1.lt; omega
  have HB2 := Lib.hid (Blk.new w1 #[.string nm, .int .i64 v1, .slice pu ts.length cu] 26)
  have HR2 := Lib.hid (R1.alloc (.cells #[.string nm, .int .i64 v1, .slice pu ts.length cu] 26))
  have HE2 := Lib.hid (E1.alloc (.cells #[.string nm, .int .i64 v1, .slice pu ts.length cu] 26))
  have HK2 := Lib.hid (but_alloc K1 hs1 (.cells #[.string nm, .int .i64 v1, .slice pu ts.length cu] 26))
  have HD2 := Lib.hid (dice_alloc hd1 (.cells #[.string nm, .int .i64 v1, .slice pu ts.length cu] 26))
  clear hSG R1 K1 E1 hd1 ho1 HR0 HK0 HD0; go_wp2_with fail
  refine (one_any b 5 _ HD2.out (by omega) (by omega)).mono ?_
  rintro e w3 ⟨z, rfl, hd3, ho3⟩; have B3 := HB2.out.only ho3 hw1b; have R3 := HR2.out.only ho3 hRb; have E3 := HE2.out.only hblt ho3; have K3 := but_only HK2.out ho3
  have hs3 := K3.size; clear HB2 HR2 HE2 HK2 HD2 ho3; have HB3 := Lib.hid B3; have HR3 := Lib.hid R3; have HE3 := Lib.hid E3; have HK3 := Lib.hid K3; have HD3 := Lib.hid hd3; clear B3 R3 E3 K3 hd3; obtain ⟨S, hS⟩ : ∃ S, S = w1.heap.size := ⟨_, rfl⟩
  rw [← hS] at HB3 hw1b hw1R ⊢
  have hRS : w.heap.size ≤ S := by omega
  clear hS; obtain ⟨c0, c1, c2⟩ := And.intro (HB3.out.cell 0) (And.intro (HB3.out.cell 1) (HB3.out.cell 2))
  simp only [List.getElem?_toArray, List.getElem?_cons_zero, List.getElem?_cons_succ] at c0 c1 c2
  cases z
  · obtain ⟨r0, r1, r2⟩ := And.intro (HR3.out.cell 0) (And.intro (HR3.out.cell 1) (HR3.out.cell 2))
    simp only [List.getElem?_toArray, List.getElem?_cons_zero, List.getElem?_cons_succ] at r0 r1 r2
    obtain ⟨z0, z1, z2⟩ := And.intro (HR3.out.frozen 0) (And.intro (HR3.out.frozen 1) (HR3.out.frozen 2))
    go_wp2_with fail
    obtain ⟨W9, hW, B9, fX, fD, fK⟩ := fill3 HR3.out (.string nm) (.int .i64 v1) (.slice pu ts.length cu)
    rw [← hW]; have E9 := HE3.out.map (ty := 26) (by decide) (by decide) fX
    have D9 := fD b hblt HD3.out
    have K9 := fK b w.heap.size w (Nat.le_refl _) HK3.out
    clear hW fX fD fK r0 r1 r2 c0 c1 c2 z0 z1 z2; have r0 : W9.cell? ⟨w.heap.size, 0, none⟩ = some (.string nm) := B9.cell 0
    have r1 : W9.cell? ⟨w.heap.size, 1, none⟩ = some (.int .i64 v1) := B9.cell 1
    have r2 : W9.cell? ⟨w.heap.size, 2, none⟩ = some (.slice pu ts.length cu) := B9.cell 2
    refine bodyPost_ret (v := .agg #[.string nm, .int .i64 v1, .slice pu ts.length cu]) (by simp [results, Tryz.results45, go_sem, r0, r1, r2]) rfl ?_
    exact ⟨nm, v1, pu, cu, ts, rfl, hn, by omega, E9, D9, K9⟩
  · go_wp2_with fail
    refine (oddfeed23 b w.heap.size nm v1 pu cu ts w3 HD3.out hblt hs3 HE3.out hn (by omega) HSG.out).mono ?_
    rintro e w4 ⟨n2, v2, pu2, cu2, ts2, rfl, hn2, hl2, E4, hd4, ho4⟩; have R4 := HR3.out.but ho4 hRb; have K4 := but_then HK3.out ho4 HK3.out.size
    clear c0 c1 c2 HB3 HR3 HE3 HK3 HD3 ho4; obtain ⟨r0, r1, r2⟩ := And.intro (R4.cell 0) (And.intro (R4.cell 1) (R4.cell 2))
    simp only [List.getElem?_toArray, List.getElem?_cons_zero, List.getElem?_cons_succ] at r0 r1 r2
    obtain ⟨z0, z1, z2⟩ := And.intro (R4.frozen 0) (And.intro (R4.frozen 1) (R4.frozen 2))
    go_wp2_with fail
    obtain ⟨W9, hW, B9, fX, fD, fK⟩ := fill3 R4 (.string n2) (.int .i64 v2) (.slice pu2 ts2.length cu2)
    rw [← hW]; have E9 := E4.map (ty := 26) (by decide) (by decide) fX
    have D9 := fD b hblt hd4; have K9 := fK b w.heap.size w (Nat.le_refl _) K4
    clear hW fX fD fK r0 r1 r2 z0 z1 z2; have r0 : W9.cell? ⟨w.heap.size, 0, none⟩ = some (.string n2) := B9.cell 0
    have r1 : W9.cell? ⟨w.heap.size, 1, none⟩ = some (.int .i64 v2) := B9.cell 1
    have r2 : W9.cell? ⟨w.heap.size, 2, none⟩ = some (.slice pu2 ts2.length cu2) := B9.cell 2
    refine bodyPost_ret (v := .agg #[.string n2, .int .i64 v2, .slice pu2 ts2.length cu2]) (by simp [results, Tryz.results45, go_sem, r0, r1, r2]) rfl ?_
    exact ⟨n2, v2, pu2, cu2, ts2, rfl, hn2, hl2, E9, D9, K9⟩
end Go.Proofs.YtageielcdebjlaaGreatDoor
