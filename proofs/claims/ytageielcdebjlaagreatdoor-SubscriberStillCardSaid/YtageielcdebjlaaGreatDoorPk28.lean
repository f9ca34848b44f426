/- timetablelaw40.some: its contract: a feed in new memory, sometimes an odd one. timetablelaw41.reader: its contract: a reader in new memory. A reader's and a feed's events in memory. No function of the program in sight. Condition: none. -/
import Derived.Test.YtageielcdebjlaaGreatDoorGenX
import Derived.Test.YtageielcdebjlaaGreatDoorPk14
namespace Go.Proofs.YtageielcdebjlaaGreatDoor
open Go.RowKit

theorem RowE.mono {lo lo' : Nat} {w : World} {v : Value} {ts : List (Ev × Value × Value)} (h : RowE lo w v ts) (hb : lo' ≤ lo) : RowE lo' w v ts := ⟨ownsRow_mono h.row hb, fun t ht => (h.ref t ht).mono hb⟩

end Go.Proofs.YtageielcdebjlaaGreatDoor
namespace Go.Proofs.YtageielcdebjlaaGreatDoor
open Go.RowKit

/-- What reader leaves. -/
def ReaderG (b : Nat) (w : World) (e : Ending) (w' : World) : Prop := ∃ (v tag : Int) (pu : Option Addr) (cu : Nat) (ts : List (Ev × Value × Value)), e = .returned (.agg #[.int .i64 v, .int .i64 tag, .slice pu ts.length cu]) ∧ ts.length ≤ 20 ∧ RowE w.heap.size w' (.slice pu ts.length cu) ts ∧ Dice b w' ∧ But b w.heap.size w w'

set_option maxHeartbeats 16000000 in
set_option maxRecDepth 100000 in
theorem reader19 (b : Nat) (w : World) (hd : Dice b w) : Calls Tryz.prog 19 #[.pointer (some ⟨b, 0, none⟩)] w (ReaderG b w) := by
  have hblt := hd.lt
  have hRb : w.heap.size ≠ b := by omega
  have HR0 := Lib.hid (Blk.new w #[.int .i64 0, .int .i64 0, .slice none 0 0] 24)
  have HK0 := Lib.hid (but_alloc (But.refl b w.heap.size w) (Nat.le_refl _) (.cells #[.int .i64 0, .int .i64 0, .slice none 0 0] 24))
  have HD0 := Lib.hid (dice_alloc hd (.cells #[.int .i64 0, .int .i64 0, .slice none 0 0] 24))
  have hs0 : w.heap.size ≤ (w.alloc (.cells #[.int .i64 0, .int .i64 0, .slice none 0 0] 24)).heap.size := by simp
  go_enter Tryz.func19, Tryz.ntmps19
  go_wp2_with fail
  refine (feed20 b _ HD0.out).mono ?_
  rintro e w1 ⟨nm, v1, pu, cu, ts, rfl, hn, -, -, hl, E1, hSG, hd1, ho1⟩
  have HSG := Lib.hid hSG
  have R1 := HR0.out.but ho1 hRb
  have K1 := but_then HK0.out ho1 HK0.out.size
  have E1 := E1.mono hs0
  have hs1 := K1.size
  have hw1b : w1.heap.size ≠ b := by have := hd1.lt; omega
  have hw1R : w.heap.size ≠ w1.heap.size := by have := R1.lt; omega
  have HB2 := Lib.hid (Blk.new w1 #[.string nm, .int .i64 v1, .slice pu ts.length cu] 26)
  have HR2 := Lib.hid (R1.alloc (.cells #[.string nm, .int .i64 v1, .slice pu ts.length cu] 26))
  have HE2 := Lib.hid (E1.alloc (.cells #[.string nm, .int .i64 v1, .slice pu ts.length cu] 26))
  have HK2 := Lib.hid (but_alloc K1 hs1 (.cells #[.string nm, .int .i64 v1, .slice pu ts.length cu] 26))
  have HD2 := Lib.hid (dice_alloc hd1 (.cells #[.string nm, .int .i64 v1, .slice pu ts.length cu] 26))
  clear hSG R1 K1 E1 hd1 ho1 HR0 HK0 HD0
  go_wp2_with fail
  refine (one_any b 6 _ HD2.out (by omega) (by omega)).mono ?_
  rintro e w3 ⟨z, rfl, hd3, ho3⟩
  have B3 := HB2.out.only ho3 hw1b
  have R3 := HR2.out.only ho3 hRb
  have E3 := HE2.out.only hblt ho3
  have K3 := but_only HK2.out ho3
  have hs3 := K3.size
  clear HB2 HR2 HE2 HK2 HD2 ho3
  have HB3 := Lib.hid B3
  have HR3 := Lib.hid R3
  have HE3 := Lib.hid E3
  have HK3 := Lib.hid K3
  have HD3 := Lib.hid hd3
  clear B3 R3 E3 K3 hd3
  obtain ⟨S, hS⟩ : ∃ S, S = w1.heap.size := ⟨_, rfl⟩
  rw [← hS] at HB3 hw1b hw1R ⊢
  have hRS : w.heap.size ≤ S := by omega
  clear hS
  obtain ⟨c0, c1, c2⟩ := And.intro (HB3.out.cell 0) (And.intro (HB3.out.cell 1) (HB3.out.cell 2))
  simp only [List.getElem?_toArray, List.getElem?_cons_zero, List.getElem?_cons_succ] at c0 c1 c2
  cases z
  · have hl9 : ts.length ≤ 20 := by omega
    have hbB : b < w3.heap.size := HD3.out.lt
    have HB := HB3
    have HR := HR3
    have HE := HE3
    have HK := HK3
    have HD := HD3
    clear HB3 HR3 HE3 HK3 HD3
    go_wp2_with fail
    clear c0 c1 c2
    refine wp_region_tail 6 (by kernel_rfl) (fun listed a x => ∃ (l0 l1 l2 l3 l4 l5 : Bool) (t11 t12 t13 t14 t15 t16 : Value), listed = #[l0, l1, l2, l3, l4, l5, false, false] ∧ a = ⟨(.pointer (some ⟨b, 0, none⟩) :: undef :: .pointer (some ⟨w.heap.size, 0, none⟩) :: .pointer (some ⟨S, 0, none⟩) :: .pointer (some ⟨b, 0, none⟩) :: .agg #[.string nm, .int .i64 v1, .slice pu ts.length cu] :: .pointer (some ⟨b, 0, none⟩) :: .bool false :: undef :: undef :: undef :: t11 :: t12 :: t13 :: t14 :: t15 :: t16 :: undef :: []).toArray, []⟩ ∧ Hid (l0 = true → t11 = .pointer (some ⟨S, 1, none⟩)) ∧ Hid (l1 = true → t12 = .int .i64 v1) ∧ Hid (l2 = true → t13 = .pointer (some ⟨b, 0, none⟩)) ∧ Hid (l3 = true → ∃ (n : Int), t14 = .int .i64 n ∧ 0 ≤ n ∧ n ≤ 8) ∧ Hid (l4 = true → t15 = .pointer (some ⟨S, 2, none⟩)) ∧ Hid (l5 = true → t16 = .slice pu ts.length cu) ∧ Hid (Sofar b w3 x)) (by decide) (by kernel_rfl) (by kernel_rfl) ?_ ?_ ?_ ?_
    · exact ⟨false, false, false, false, false, false, _, _, _, _, _, _, rfl, rfl, Lib.hid (fun h => by cases h), Lib.hid (fun h => by cases h), Lib.hid (fun h => by cases h), Lib.hid (fun h => by cases h), Lib.hid (fun h => by cases h), Lib.hid (fun h => by cases h), Lib.hid (Sofar.start HD.out)⟩
    · intro listed a x hj
      obtain ⟨l0, hj⟩ := hj
      obtain ⟨l1, hj⟩ := hj
      obtain ⟨l2, hj⟩ := hj
      obtain ⟨l3, hj⟩ := hj
      obtain ⟨l4, hj⟩ := hj
      obtain ⟨l5, hj⟩ := hj
      obtain ⟨t11, hj⟩ := hj
      obtain ⟨t12, hj⟩ := hj
      obtain ⟨t13, hj⟩ := hj
      obtain ⟨t14, hj⟩ := hj
      obtain ⟨t15, hj⟩ := hj
      obtain ⟨t16, hj⟩ := hj
      obtain ⟨h1, -⟩ := hj
      subst h1
      exact ⟨rfl, fun k h1 h2 => by (have h2 : k < 8 := h2); rcases (show k = 6 ∨ k = 7 by omega) with rfl | rfl <;> rfl⟩
    · intro listed a x i hj hlt hu haf
      obtain ⟨l0, hj⟩ := hj
      obtain ⟨l1, hj⟩ := hj
      obtain ⟨l2, hj⟩ := hj
      obtain ⟨l3, hj⟩ := hj
      obtain ⟨l4, hj⟩ := hj
      obtain ⟨l5, hj⟩ := hj
      obtain ⟨t11, hj⟩ := hj
      obtain ⟨t12, hj⟩ := hj
      obtain ⟨t13, hj⟩ := hj
      obtain ⟨t14, hj⟩ := hj
      obtain ⟨t15, hj⟩ := hj
      obtain ⟨t16, hj⟩ := hj
      obtain ⟨hl_, hj⟩ := hj
      obtain ⟨ha_, hj⟩ := hj
      obtain ⟨H0, hj⟩ := hj
      obtain ⟨H1, hj⟩ := hj
      obtain ⟨H2, hj⟩ := hj
      obtain ⟨H3, hj⟩ := hj
      obtain ⟨H4, hj⟩ := hj
      obtain ⟨H5, hj⟩ := hj
      have HS := hj
      clear hj
      subst hl_
      subst ha_
      rcases (show ∀ i : Nat, i < 6 → (i = 0 ∨ i = 1 ∨ i = 2 ∨ i = 3 ∨ i = 4 ∨ i = 5) by decide) i hlt with rfl | rfl | rfl | rfl | rfl | rfl
      · have haf := haf _ rfl
        clear haf
        have hu : l0 = false := hu
        refine wpOp_of_list_any rfl fun QQ hQ => ?_
        have hQQ := Lib.hid hQ
        clear hQ
        simp only [List.getElem_toArray, List.getElem_cons_zero]
        go_wp2_with fail
        exact hQQ.out _ _ ⟨true, l1, l2, l3, l4, l5, _, _, _, _, _, _, rfl, rfl, Lib.hid (fun _ => rfl), H1, H2, H3, H4, H5, HS⟩
      · have haf := haf _ rfl
        have q0 : l0 = true := haf ⟨0, Go.Ground.data⟩ (by simp) rfl
        clear haf
        have hu : l1 = false := hu
        have e0 := (H0.out q0)
        subst e0
        clear H0
        have hc : x.cell? ⟨S, 1, none⟩ = some (.int .i64 v1) := (HS.out.blk HB.out hw1b).cell 1
        refine wpOp_of_list_any rfl fun QQ hQ => ?_
        have hQQ := Lib.hid hQ
        clear hQ
        simp only [List.getElem_toArray, List.getElem_cons_zero, List.getElem_cons_succ]
        go_wp2_with fail
        exact hQQ.out _ _ ⟨l0, true, l2, l3, l4, l5, _, _, _, _, _, _, rfl, rfl, Lib.hid (fun _ => rfl), Lib.hid (fun _ => rfl), H2, H3, H4, H5, HS⟩
      · have haf := haf _ rfl
        clear haf
        have hu : l2 = false := hu
        refine wpOp_of_list_any rfl fun QQ hQ => ?_
        have hQQ := Lib.hid hQ
        clear hQ
        simp only [List.getElem_toArray, List.getElem_cons_zero, List.getElem_cons_succ]
        go_wp2_with fail
        exact hQQ.out _ _ ⟨l0, l1, true, l3, l4, l5, _, _, _, _, _, _, rfl, rfl, H0, H1, Lib.hid (fun _ => rfl), H3, H4, H5, HS⟩
      · have haf := haf _ rfl
        have q2 : l2 = true := haf ⟨2, Go.Ground.data⟩ (by simp) rfl
        clear haf
        have hu : l3 = false := hu
        have e2 := (H2.out q2)
        subst e2
        clear H2
        refine wpOp_of_list_any rfl fun QQ hQ => ?_
        have hQQ := Lib.hid hQ
        clear hQ
        simp only [List.getElem_toArray, List.getElem_cons_zero, List.getElem_cons_succ]
        go_wp2_with fail
        refine (next_any b 9 _ HS.out.dice (by omega) (by omega)).mono ?_
        rintro e x1 ⟨v, rfl, h0, h1, -, hd1, ho1⟩
        have h1 := h1 (by omega)
        have hk := Kept.only ho1 hbB
        have HS1 := Lib.hid (HS.out.only hd1 ho1)
        clear ho1 hd1
        go_wp2_with fail
        exact hQQ.out _ _ ⟨l0, l1, l2, true, l4, l5, _, _, _, _, _, _, rfl, rfl, H0, H1, Lib.hid (fun _ => rfl), Lib.hid (fun _ => ⟨_, rfl, by omega, by omega⟩), H4, H5, HS1⟩
      · have haf := haf _ rfl
        clear haf
        have hu : l4 = false := hu
        refine wpOp_of_list_any rfl fun QQ hQ => ?_
        have hQQ := Lib.hid hQ
        clear hQ
        simp only [List.getElem_toArray, List.getElem_cons_zero, List.getElem_cons_succ]
        go_wp2_with fail
        exact hQQ.out _ _ ⟨l0, l1, l2, l3, true, l5, _, _, _, _, _, _, rfl, rfl, H0, H1, H2, H3, Lib.hid (fun _ => rfl), H5, HS⟩
      · have haf := haf _ rfl
        have q4 : l4 = true := haf ⟨4, Go.Ground.data⟩ (by simp) rfl
        clear haf
        have hu : l5 = false := hu
        have e4 := (H4.out q4)
        subst e4
        clear H4
        have hc : x.cell? ⟨S, 2, none⟩ = some (.slice pu ts.length cu) := (HS.out.blk HB.out hw1b).cell 2
        refine wpOp_of_list_any rfl fun QQ hQ => ?_
        have hQQ := Lib.hid hQ
        clear hQ
        simp only [List.getElem_toArray, List.getElem_cons_zero, List.getElem_cons_succ]
        go_wp2_with fail
        exact hQQ.out _ _ ⟨l0, l1, l2, l3, l4, true, _, _, _, _, _, _, rfl, rfl, H0, H1, H2, H3, Lib.hid (fun _ => rfl), Lib.hid (fun _ => rfl), HS⟩
    · intro listed a x hj hall
      obtain ⟨l0, hj⟩ := hj
      obtain ⟨l1, hj⟩ := hj
      obtain ⟨l2, hj⟩ := hj
      obtain ⟨l3, hj⟩ := hj
      obtain ⟨l4, hj⟩ := hj
      obtain ⟨l5, hj⟩ := hj
      obtain ⟨t11, hj⟩ := hj
      obtain ⟨t12, hj⟩ := hj
      obtain ⟨t13, hj⟩ := hj
      obtain ⟨t14, hj⟩ := hj
      obtain ⟨t15, hj⟩ := hj
      obtain ⟨t16, hj⟩ := hj
      obtain ⟨hl_, hj⟩ := hj
      obtain ⟨ha_, hj⟩ := hj
      obtain ⟨H0, hj⟩ := hj
      obtain ⟨H1, hj⟩ := hj
      obtain ⟨H2, hj⟩ := hj
      obtain ⟨H3, hj⟩ := hj
      obtain ⟨H4, hj⟩ := hj
      obtain ⟨H5, hj⟩ := hj
      have HS := hj
      clear hj
      subst hl_
      subst ha_
      have q1 : l1 = true := hall 1 (by omega)
      have q3 : l3 = true := hall 3 (by omega)
      have q5 : l5 = true := hall 5 (by omega)
      clear hall
      have e1 := (H1.out q1)
      subst e1
      obtain ⟨n3, e3, c3_0, c3_1⟩ := (H3.out q3)
      subst e3
      have e5 := (H5.out q5)
      subst e5
      have HB0 := Lib.hid (HS.out.blk HR.out hRb)
      have HE0 := Lib.hid (HE.out.but hblt HS.out.but)
      have HK0 := Lib.hid (but_then HK.out HS.out.but HK.out.size)
      have HD0 := Lib.hid HS.out.dice
      have r0 : x.cell? ⟨w.heap.size, 0, none⟩ = some (.int .i64 0) := HB0.out.cell 0
      have r1 : x.cell? ⟨w.heap.size, 1, none⟩ = some (.int .i64 0) := HB0.out.cell 1
      have r2 : x.cell? ⟨w.heap.size, 2, none⟩ = some (.slice none 0 0) := HB0.out.cell 2
      have z0 := HB0.out.frozen 0
      have z1 := HB0.out.frozen 1
      have z2 := HB0.out.frozen 2
      refine tail_any (fun a x => ∃ (t11 t12 t13 t14 t15 t16 t17 : Value), a = ⟨(.pointer (some ⟨b, 0, none⟩) :: undef :: .pointer (some ⟨w.heap.size, 0, none⟩) :: .pointer (some ⟨S, 0, none⟩) :: .pointer (some ⟨b, 0, none⟩) :: .agg #[.string nm, .int .i64 v1, .slice pu ts.length cu] :: .pointer (some ⟨b, 0, none⟩) :: .bool false :: undef :: undef :: undef :: t11 :: t12 :: t13 :: t14 :: t15 :: t16 :: t17 :: []).toArray, []⟩ ∧ ∃ n : Int, Blk w.heap.size #[.int .i64 v1, .int .i64 n, .slice pu ts.length cu] 24 x ∧ RowE w.heap.size x (.slice pu ts.length cu) ts ∧ Dice b x ∧ But b w.heap.size w x) ?_ fun QQ hQ => ?_
      · intro a x hpost
        obtain ⟨t11, hpost⟩ := hpost
        obtain ⟨t12, hpost⟩ := hpost
        obtain ⟨t13, hpost⟩ := hpost
        obtain ⟨t14, hpost⟩ := hpost
        obtain ⟨t15, hpost⟩ := hpost
        obtain ⟨t16, hpost⟩ := hpost
        obtain ⟨t17, hpost⟩ := hpost
        obtain ⟨ha_, hpost⟩ := hpost
        subst ha_
        obtain ⟨n9, p1, p2, p3, p4⟩ := hpost
        have r0 : x.cell? ⟨w.heap.size, 0, none⟩ = some (.int .i64 v1) := p1.cell 0
        have r1 : x.cell? ⟨w.heap.size, 1, none⟩ = some (.int .i64 n9) := p1.cell 1
        have r2 : x.cell? ⟨w.heap.size, 2, none⟩ = some (.slice pu ts.length cu) := p1.cell 2
        have P2 := Lib.hid p2
        have P3 := Lib.hid p3
        have P4 := Lib.hid p4
        clear p1 p2 p3 p4
        go_wp2_with fail
        refine bodyPost_ret (v := .agg #[.int .i64 v1, .int .i64 n9, .slice pu ts.length cu]) (by simp [results, Tryz.results19, go_sem, r0, r1, r2]) rfl ?_
        exact ⟨v1, n9, pu, cu, ts, rfl, hl9, P2.out, P3.out, P4.out⟩
      have hQQ := Lib.hid hQ
      clear hQ
      simp only [List.drop_succ_cons, List.drop_zero]
      go_wp2_with fail
      obtain ⟨W9, hW, B9, fX, fD, fK⟩ := fill3 HB0.out (.int .i64 v1) (.int .i64 n3) (.slice pu ts.length cu)
      rw [← hW]
      have HB9 := Lib.hid B9
      have HE9 := Lib.hid (HE0.out.map (ty := 24) (by decide) (by decide) fX)
      have HD9 := Lib.hid (fD b hblt HD0.out)
      have HK9 := Lib.hid (fK b w.heap.size w (Nat.le_refl _) HK0.out)
      clear hW B9 fX fD fK r0 r1 r2 z0 z1 z2
      exact hQQ.out _ _ ⟨_, _, _, _, _, _, _, rfl, _, HB9.out, HE9.out, HD9.out, HK9.out⟩
  · go_wp2_with fail
    refine (oddfeed23 b w.heap.size nm v1 pu cu ts w3 HD3.out hblt hs3 HE3.out hn (by omega) HSG.out).mono ?_
    rintro e w4 ⟨n2, v2, pu2, cu2, ts2, rfl, hn2, hl9, E4, hd4, ho4⟩
    have B4 := HB3.out.but ho4 hw1b
    have HR4 := Lib.hid (HR3.out.but ho4 hRb)
    have HK4 := Lib.hid (but_then HK3.out ho4 HK3.out.size)
    have HE4 := Lib.hid E4
    have HD4 := Lib.hid hd4
    clear c0 c1 c2 HB3 HR3 HE3 HK3 HD3 ho4 E4 hd4
    have HB4 := Lib.hid B4
    obtain ⟨r0, r1, r2⟩ := And.intro (B4.cell 0) (And.intro (B4.cell 1) (B4.cell 2))
    simp only [List.getElem?_toArray, List.getElem?_cons_zero, List.getElem?_cons_succ] at r0 r1 r2
    obtain ⟨z0, z1, z2⟩ := And.intro (B4.frozen 0) (And.intro (B4.frozen 1) (B4.frozen 2))
    clear B4
    go_wp2_with fail
    obtain ⟨W9, hW, B9, fX, fD, fK⟩ := fill3 HB4.out (.string n2) (.int .i64 v2) (.slice pu2 ts2.length cu2)
    rw [← hW]
    have HE := Lib.hid (HE4.out.map (ty := 26) (by decide) (by decide) fX)
    have HD := Lib.hid (fD b (by omega) HD4.out)
    have HK := Lib.hid (fK b w.heap.size w hRS HK4.out)
    have HR := Lib.hid (show Blk w.heap.size #[.int .i64 0, .int .i64 0, .slice none 0 0] 24 W9 from by rw [hW]; exact ((HR4.out.set_other hw1R 0 _).set_other hw1R 1 _).set_other hw1R 2 _)
    have HB := Lib.hid B9
    clear hW fX fD fK r0 r1 r2 z0 z1 z2 B9 HB4 HR4 HE4 HD4 HK4
    have hbB : b < W9.heap.size := HD.out.lt
    refine wp_region_tail 6 (by kernel_rfl) (fun listed a x => ∃ (l0 l1 l2 l3 l4 l5 : Bool) (t11 t12 t13 t14 t15 t16 : Value), listed = #[l0, l1, l2, l3, l4, l5, false, false] ∧ a = ⟨(.pointer (some ⟨b, 0, none⟩) :: undef :: .pointer (some ⟨w.heap.size, 0, none⟩) :: .pointer (some ⟨S, 0, none⟩) :: .pointer (some ⟨b, 0, none⟩) :: .agg #[.string nm, .int .i64 v1, .slice pu ts.length cu] :: .pointer (some ⟨b, 0, none⟩) :: .bool true :: .pointer (some ⟨b, 0, none⟩) :: .agg #[.string nm, .int .i64 v1, .slice pu ts.length cu] :: .agg #[.string n2, .int .i64 v2, .slice pu2 ts2.length cu2] :: t11 :: t12 :: t13 :: t14 :: t15 :: t16 :: undef :: []).toArray, []⟩ ∧ Hid (l0 = true → t11 = .pointer (some ⟨S, 1, none⟩)) ∧ Hid (l1 = true → t12 = .int .i64 v2) ∧ Hid (l2 = true → t13 = .pointer (some ⟨b, 0, none⟩)) ∧ Hid (l3 = true → ∃ (n : Int), t14 = .int .i64 n ∧ 0 ≤ n ∧ n ≤ 8) ∧ Hid (l4 = true → t15 = .pointer (some ⟨S, 2, none⟩)) ∧ Hid (l5 = true → t16 = .slice pu2 ts2.length cu2) ∧ Hid (Sofar b W9 x)) (by decide) (by kernel_rfl) (by kernel_rfl) ?_ ?_ ?_ ?_
    · exact ⟨false, false, false, false, false, false, _, _, _, _, _, _, rfl, rfl, Lib.hid (fun h => by cases h), Lib.hid (fun h => by cases h), Lib.hid (fun h => by cases h), Lib.hid (fun h => by cases h), Lib.hid (fun h => by cases h), Lib.hid (fun h => by cases h), Lib.hid (Sofar.start HD.out)⟩
    · intro listed a x hj
      obtain ⟨l0, hj⟩ := hj
      obtain ⟨l1, hj⟩ := hj
      obtain ⟨l2, hj⟩ := hj
      obtain ⟨l3, hj⟩ := hj
      obtain ⟨l4, hj⟩ := hj
      obtain ⟨l5, hj⟩ := hj
      obtain ⟨t11, hj⟩ := hj
      obtain ⟨t12, hj⟩ := hj
      obtain ⟨t13, hj⟩ := hj
      obtain ⟨t14, hj⟩ := hj
      obtain ⟨t15, hj⟩ := hj
      obtain ⟨t16, hj⟩ := hj
      obtain ⟨h1, -⟩ := hj
      subst h1
      exact ⟨rfl, fun k h1 h2 => by (have h2 : k < 8 := h2); rcases (show k = 6 ∨ k = 7 by omega) with rfl | rfl <;> rfl⟩
    · intro listed a x i hj hlt hu haf
      obtain ⟨l0, hj⟩ := hj
      obtain ⟨l1, hj⟩ := hj
      obtain ⟨l2, hj⟩ := hj
      obtain ⟨l3, hj⟩ := hj
      obtain ⟨l4, hj⟩ := hj
      obtain ⟨l5, hj⟩ := hj
      obtain ⟨t11, hj⟩ := hj
      obtain ⟨t12, hj⟩ := hj
      obtain ⟨t13, hj⟩ := hj
      obtain ⟨t14, hj⟩ := hj
      obtain ⟨t15, hj⟩ := hj
      obtain ⟨t16, hj⟩ := hj
      obtain ⟨hl_, hj⟩ := hj
      obtain ⟨ha_, hj⟩ := hj
      obtain ⟨H0, hj⟩ := hj
      obtain ⟨H1, hj⟩ := hj
      obtain ⟨H2, hj⟩ := hj
      obtain ⟨H3, hj⟩ := hj
      obtain ⟨H4, hj⟩ := hj
      obtain ⟨H5, hj⟩ := hj
      have HS := hj
      clear hj
      subst hl_
      subst ha_
      rcases (show ∀ i : Nat, i < 6 → (i = 0 ∨ i = 1 ∨ i = 2 ∨ i = 3 ∨ i = 4 ∨ i = 5) by decide) i hlt with rfl | rfl | rfl | rfl | rfl | rfl
      · have haf := haf _ rfl
        clear haf
        have hu : l0 = false := hu
        refine wpOp_of_list_any rfl fun QQ hQ => ?_
        have hQQ := Lib.hid hQ
        clear hQ
        simp only [List.getElem_toArray, List.getElem_cons_zero]
        go_wp2_with fail
        exact hQQ.out _ _ ⟨true, l1, l2, l3, l4, l5, _, _, _, _, _, _, rfl, rfl, Lib.hid (fun _ => rfl), H1, H2, H3, H4, H5, HS⟩
      · have haf := haf _ rfl
        have q0 : l0 = true := haf ⟨0, Go.Ground.data⟩ (by simp) rfl
        clear haf
        have hu : l1 = false := hu
        have e0 := (H0.out q0)
        subst e0
        clear H0
        have hc : x.cell? ⟨S, 1, none⟩ = some (.int .i64 v2) := (HS.out.blk HB.out hw1b).cell 1
        refine wpOp_of_list_any rfl fun QQ hQ => ?_
        have hQQ := Lib.hid hQ
        clear hQ
        simp only [List.getElem_toArray, List.getElem_cons_zero, List.getElem_cons_succ]
        go_wp2_with fail
        exact hQQ.out _ _ ⟨l0, true, l2, l3, l4, l5, _, _, _, _, _, _, rfl, rfl, Lib.hid (fun _ => rfl), Lib.hid (fun _ => rfl), H2, H3, H4, H5, HS⟩
      · have haf := haf _ rfl
        clear haf
        have hu : l2 = false := hu
        refine wpOp_of_list_any rfl fun QQ hQ => ?_
        have hQQ := Lib.hid hQ
        clear hQ
        simp only [List.getElem_toArray, List.getElem_cons_zero, List.getElem_cons_succ]
        go_wp2_with fail
        exact hQQ.out _ _ ⟨l0, l1, true, l3, l4, l5, _, _, _, _, _, _, rfl, rfl, H0, H1, Lib.hid (fun _ => rfl), H3, H4, H5, HS⟩
      · have haf := haf _ rfl
        have q2 : l2 = true := haf ⟨2, Go.Ground.data⟩ (by simp) rfl
        clear haf
        have hu : l3 = false := hu
        have e2 := (H2.out q2)
        subst e2
        clear H2
        refine wpOp_of_list_any rfl fun QQ hQ => ?_
        have hQQ := Lib.hid hQ
        clear hQ
        simp only [List.getElem_toArray, List.getElem_cons_zero, List.getElem_cons_succ]
        go_wp2_with fail
        refine (next_any b 9 _ HS.out.dice (by omega) (by omega)).mono ?_
        rintro e x1 ⟨v, rfl, h0, h1, -, hd1, ho1⟩
        have h1 := h1 (by omega)
        have hk := Kept.only ho1 hbB
        have HS1 := Lib.hid (HS.out.only hd1 ho1)
        clear ho1 hd1
        go_wp2_with fail
        exact hQQ.out _ _ ⟨l0, l1, l2, true, l4, l5, _, _, _, _, _, _, rfl, rfl, H0, H1, Lib.hid (fun _ => rfl), Lib.hid (fun _ => ⟨_, rfl, by omega, by omega⟩), H4, H5, HS1⟩
      · have haf := haf _ rfl
        clear haf
        have hu : l4 = false := hu
        refine wpOp_of_list_any rfl fun QQ hQ => ?_
        have hQQ := Lib.hid hQ
        clear hQ
        simp only [List.getElem_toArray, List.getElem_cons_zero, List.getElem_cons_succ]
        go_wp2_with fail
        exact hQQ.out _ _ ⟨l0, l1, l2, l3, true, l5, _, _, _, _, _, _, rfl, rfl, H0, H1, H2, H3, Lib.hid (fun _ => rfl), H5, HS⟩
      · have haf := haf _ rfl
        have q4 : l4 = true := haf ⟨4, Go.Ground.data⟩ (by simp) rfl
        clear haf
        have hu : l5 = false := hu
        have e4 := (H4.out q4)
        subst e4
        clear H4
        have hc : x.cell? ⟨S, 2, none⟩ = some (.slice pu2 ts2.length cu2) := (HS.out.blk HB.out hw1b).cell 2
        refine wpOp_of_list_any rfl fun QQ hQ => ?_
        have hQQ := Lib.hid hQ
        clear hQ
        simp only [List.getElem_toArray, List.getElem_cons_zero, List.getElem_cons_succ]
        go_wp2_with fail
        exact hQQ.out _ _ ⟨l0, l1, l2, l3, l4, true, _, _, _, _, _, _, rfl, rfl, H0, H1, H2, H3, Lib.hid (fun _ => rfl), Lib.hid (fun _ => rfl), HS⟩
    · intro listed a x hj hall
      obtain ⟨l0, hj⟩ := hj
      obtain ⟨l1, hj⟩ := hj
      obtain ⟨l2, hj⟩ := hj
      obtain ⟨l3, hj⟩ := hj
      obtain ⟨l4, hj⟩ := hj
      obtain ⟨l5, hj⟩ := hj
      obtain ⟨t11, hj⟩ := hj
      obtain ⟨t12, hj⟩ := hj
      obtain ⟨t13, hj⟩ := hj
      obtain ⟨t14, hj⟩ := hj
      obtain ⟨t15, hj⟩ := hj
      obtain ⟨t16, hj⟩ := hj
      obtain ⟨hl_, hj⟩ := hj
      obtain ⟨ha_, hj⟩ := hj
      obtain ⟨H0, hj⟩ := hj
      obtain ⟨H1, hj⟩ := hj
      obtain ⟨H2, hj⟩ := hj
      obtain ⟨H3, hj⟩ := hj
      obtain ⟨H4, hj⟩ := hj
      obtain ⟨H5, hj⟩ := hj
      have HS := hj
      clear hj
      subst hl_
      subst ha_
      have q1 : l1 = true := hall 1 (by omega)
      have q3 : l3 = true := hall 3 (by omega)
      have q5 : l5 = true := hall 5 (by omega)
      clear hall
      have e1 := (H1.out q1)
      subst e1
      obtain ⟨n3, e3, c3_0, c3_1⟩ := (H3.out q3)
      subst e3
      have e5 := (H5.out q5)
      subst e5
      have HB0 := Lib.hid (HS.out.blk HR.out hRb)
      have HE0 := Lib.hid (HE.out.but hblt HS.out.but)
      have HK0 := Lib.hid (but_then HK.out HS.out.but HK.out.size)
      have HD0 := Lib.hid HS.out.dice
      have r0 : x.cell? ⟨w.heap.size, 0, none⟩ = some (.int .i64 0) := HB0.out.cell 0
      have r1 : x.cell? ⟨w.heap.size, 1, none⟩ = some (.int .i64 0) := HB0.out.cell 1
      have r2 : x.cell? ⟨w.heap.size, 2, none⟩ = some (.slice none 0 0) := HB0.out.cell 2
      have z0 := HB0.out.frozen 0
      have z1 := HB0.out.frozen 1
      have z2 := HB0.out.frozen 2
      refine tail_any (fun a x => ∃ (t11 t12 t13 t14 t15 t16 t17 : Value), a = ⟨(.pointer (some ⟨b, 0, none⟩) :: undef :: .pointer (some ⟨w.heap.size, 0, none⟩) :: .pointer (some ⟨S, 0, none⟩) :: .pointer (some ⟨b, 0, none⟩) :: .agg #[.string nm, .int .i64 v1, .slice pu ts.length cu] :: .pointer (some ⟨b, 0, none⟩) :: .bool true :: .pointer (some ⟨b, 0, none⟩) :: .agg #[.string nm, .int .i64 v1, .slice pu ts.length cu] :: .agg #[.string n2, .int .i64 v2, .slice pu2 ts2.length cu2] :: t11 :: t12 :: t13 :: t14 :: t15 :: t16 :: t17 :: []).toArray, []⟩ ∧ ∃ n : Int, Blk w.heap.size #[.int .i64 v2, .int .i64 n, .slice pu2 ts2.length cu2] 24 x ∧ RowE w.heap.size x (.slice pu2 ts2.length cu2) ts2 ∧ Dice b x ∧ But b w.heap.size w x) ?_ fun QQ hQ => ?_
      · intro a x hpost
        obtain ⟨t11, hpost⟩ := hpost
        obtain ⟨t12, hpost⟩ := hpost
        obtain ⟨t13, hpost⟩ := hpost
        obtain ⟨t14, hpost⟩ := hpost
        obtain ⟨t15, hpost⟩ := hpost
        obtain ⟨t16, hpost⟩ := hpost
        obtain ⟨t17, hpost⟩ := hpost
        obtain ⟨ha_, hpost⟩ := hpost
        subst ha_
        obtain ⟨n9, p1, p2, p3, p4⟩ := hpost
        have r0 : x.cell? ⟨w.heap.size, 0, none⟩ = some (.int .i64 v2) := p1.cell 0
        have r1 : x.cell? ⟨w.heap.size, 1, none⟩ = some (.int .i64 n9) := p1.cell 1
        have r2 : x.cell? ⟨w.heap.size, 2, none⟩ = some (.slice pu2 ts2.length cu2) := p1.cell 2
        have P2 := Lib.hid p2
        have P3 := Lib.hid p3
        have P4 := Lib.hid p4
        clear p1 p2 p3 p4
        go_wp2_with fail
        refine bodyPost_ret (v := .agg #[.int .i64 v2, .int .i64 n9, .slice pu2 ts2.length cu2]) (by simp [results, Tryz.results19, go_sem, r0, r1, r2]) rfl ?_
        exact ⟨v2, n9, pu2, cu2, ts2, rfl, hl9, P2.out, P3.out, P4.out⟩
      have hQQ := Lib.hid hQ
      clear hQ
      simp only [List.drop_succ_cons, List.drop_zero]
      go_wp2_with fail
      obtain ⟨W9, hW, B9, fX, fD, fK⟩ := fill3 HB0.out (.int .i64 v2) (.int .i64 n3) (.slice pu2 ts2.length cu2)
      rw [← hW]
      have HB9 := Lib.hid B9
      have HE9 := Lib.hid (HE0.out.map (ty := 24) (by decide) (by decide) fX)
      have HD9 := Lib.hid (fD b hblt HD0.out)
      have HK9 := Lib.hid (fK b w.heap.size w (Nat.le_refl _) HK0.out)
      clear hW B9 fX fD fK r0 r1 r2 z0 z1 z2
      exact hQQ.out _ _ ⟨_, _, _, _, _, _, _, rfl, _, HB9.out, HE9.out, HD9.out, HK9.out⟩
end Go.Proofs.YtageielcdebjlaaGreatDoor
namespace Go.Proofs.YtageielcdebjlaaGreatDoor
open Go.RowKit

/-- A reader's events in memory. -/
structure RdM (w : World) (ao : Option Addr) (n c : Nat) (ts : List (Ev × Value × Value)) : Prop where
  len : n = ts.length
  seg : Seg w.heap.size w ao ts
  nil : ao = none → c = 0
  cap : n ≤ c
  few : n ≤ 1000000
  ex : ∀ t ∈ ts, t.1.days.ex.length ≤ 1000000 ∧ t.1.days.xt.length ≤ 1000000
theorem RdM.below {w w' : World} {ao : Option Addr} {n c : Nat} {ts : List (Ev × Value × Value)} (h : RdM w ao n c ts) (hb : Below w.heap.size w w') : RdM w' ao n c ts := ⟨h.len, (h.seg.below hb).mono hb.size, h.nil, h.cap, h.few, h.ex⟩
theorem RowE.rdm {lo : Nat} {w : World} {pu : Option Addr} {cu : Nat} {ts : List (Ev × Value × Value)} (h : RowE lo w (.slice pu ts.length cu) ts) (hl : ts.length ≤ 1000000) : RdM w pu ts.length cu ts := by
  obtain ⟨ao, c, h1, h2, h3⟩ := h.t.seg
  simp only [Value.slice.injEq] at h1
  obtain ⟨rfl, -, rfl⟩ := h1
  refine ⟨rfl, h3, h2, ?_, hl, fun t ht => ?_⟩
  · rcases h.row.2 with ⟨_, h0⟩ | ⟨g, cap, cur, hv, _, _, h5, _⟩
    · omega
    · simp only [Value.slice.injEq] at hv
      omega
  · have hg := (h.ref t ht).1
    exact ⟨by have := hg.ex; omega, by have := hg.xt; omega⟩

/-- A feed's events in memory. -/
structure FdM (w : World) (ao : Option Addr) (n : Nat) (ts : List (Ev × Value × Value)) : Prop where
  len : n = ts.length
  seg : Seg w.heap.size w ao ts
  few : n ≤ 1000000
  ex : ∀ t ∈ ts, t.1.days.ex.length ≤ 1000000 ∧ t.1.days.xt.length ≤ 1000000
theorem FdM.below {w w' : World} {ao : Option Addr} {n : Nat} {ts : List (Ev × Value × Value)} (h : FdM w ao n ts) (hb : Below w.heap.size w w') : FdM w' ao n ts := ⟨h.len, (h.seg.below hb).mono hb.size, h.few, h.ex⟩
theorem RdM.fd {w : World} {ao : Option Addr} {n c : Nat} {ts : List (Ev × Value × Value)} (h : RdM w ao n c ts) : FdM w ao n ts := ⟨h.len, h.seg, h.few, h.ex⟩
end Go.Proofs.YtageielcdebjlaaGreatDoor
