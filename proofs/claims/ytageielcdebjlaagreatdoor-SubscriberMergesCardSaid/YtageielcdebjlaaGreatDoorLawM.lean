/- SubscriberMerges: the walk of the law. -/
import Derived.Test.YtageielcdebjlaaGreatDoorAwk
import Derived.Test.YtageielcdebjlaaGreatDoorMerge27
import Derived.Test.YtageielcdebjlaaGreatDoorPk28
namespace Go.Proofs.YtageielcdebjlaaGreatDoor
open Go.RowKit

theorem merge_len (rv tag : Int) (es : List Ev) (n : ByteArray) (v : Int) (fs : List Ev) : (mergeV rv tag es n v fs).2.2.1.length ≤ es.length + fs.length ∧ (mergeV rv tag es n v fs).2.2.2.1.length ≤ fs.length := by
  have hm := mrg_len es fs fs.length (Nat.le_refl _)
  rw [mrg_all] at hm
  unfold mergeV
  split
  · exact ⟨Nat.zero_le _, Nat.zero_le _⟩
  · split
    · exact ⟨Nat.zero_le _, Nat.zero_le _⟩
    · split
      · exact ⟨Nat.le_add_right _ _, Nat.zero_le _⟩
      · split
        · exact ⟨Nat.zero_le _, Nat.zero_le _⟩
        · exact hm

set_option maxHeartbeats 16000000 in
set_option maxRecDepth 100000 in
theorem law3 (rv tag : Int) (ar : Option Addr) (cr : Nat) (rs : List (Ev × Value × Value)) (fn : ByteArray) (fv : Int) (af : Option Addr) (cf : Nat) (fs : List (Ev × Value × Value)) (ao : Option Addr) (len cap : Nat) (w : World) (hR : Seg w.heap.size w ar rs) (hF : Seg w.heap.size w af fs)
    (hrn : ar = none → cr = 0) (hrc : rs.length ≤ cr) (hrl : rs.length ≤ 1000000000000) (hfl : fs.length ≤ 1000000000000) (hn : Nums w ao len) :
    Calls Tryz.prog 3 #[.agg #[.int .i64 rv, .int .i64 tag, .slice ar rs.length cr], .agg #[.string fn, .int .i64 fv, .slice af fs.length cf], .slice ao len cap] w fun e w' => e = .returned (.bool true) ∧ Below w.heap.size w w' := by
  obtain ⟨w0, hw0⟩ : ∃ w0, w0 = (w.alloc (.cells #[.int .i64 rv, .int .i64 tag, .slice ar rs.length cr] 24)).alloc (.cells #[.string fn, .int .i64 fv, .slice af fs.length cf] 26) := ⟨_, rfl⟩
  have HRB := Lib.hid (show Blk w.heap.size #[.int .i64 rv, .int .i64 tag, .slice ar rs.length cr] 24 w0 from by rw [hw0]; exact (Blk.new w _ _).alloc _)
  have HFB := Lib.hid (show Blk (w.heap.size + 1) #[.string fn, .int .i64 fv, .slice af fs.length cf] 26 w0 from by rw [hw0]; exact Blk.new' (g := w.heap.size + 1) _ _ _ (by simp))
  have HL := Lib.hid (show Below w.heap.size w w0 from by rw [hw0]; exact (below_box w _).alloc (by simp) _)
  have HN := Lib.hid hn
  have HR := Lib.hid hR
  have HRS := Lib.hid hR
  have HF := Lib.hid hF
  have HFS := Lib.hid hF
  obtain ⟨n, hnn⟩ : ∃ n, n = rs.length := ⟨_, rfl⟩
  obtain ⟨m, hmm⟩ : ∃ m, m = fs.length := ⟨_, rfl⟩
  have Hn := Lib.hid hnn
  have Hm := Lib.hid hmm
  have HRN := Lib.hid hrn
  have HS1 : Hid (Calls Tryz.prog 16 #[.slice ar n cr] w0 (ShortR (rs.map (·.1)) w0)) := Lib.hid (by
    have h := short16 (rs.map (·.1)) ar cr w.heap.size w0 (HR.out.below HL.out).evs (by rw [List.length_map]; omega)
    rw [List.length_map, ← Hn.out] at h
    exact h)
  have HS2 : Hid (Calls Tryz.prog 16 #[.slice af m cf] w0 (ShortR (fs.map (·.1)) w0)) := Lib.hid (by
    have h := short16 (fs.map (·.1)) af cf w.heap.size w0 (HF.out.below HL.out).evs (by rw [List.length_map]; omega)
    rw [List.length_map, ← Hm.out] at h
    exact h)
  rw [← hnn] at hrc hrl HRB
  rw [← hmm] at hfl HFB
  rw [← hnn, ← hmm] at hw0 ⊢
  clear hR hF hn hnn hmm hrn
  have r2 : w0.cell? ⟨w.heap.size, 2, none⟩ = some (.slice ar n cr) := HRB.out.cell 2
  have f2 : w0.cell? ⟨w.heap.size + 1, 2, none⟩ = some (.slice af m cf) := HFB.out.cell 2
  by_cases hlen : (len : Int) ≤ 400
  · have hd1 : decide ((len : Int) ≤ 400) = true := decide_eq_true hlen
    go_enter Tryz.func3, Tryz.ntmps3
    go_upto_region 1 with (fail)
    rw [← hw0]
    clear hw0
    go_wp2_with fail
    refine (light_any _ _ _ _).mono ?_
    rintro e w1 ⟨rfl, hw⟩
    rw [hw, hd1]
    clear hw w1 hd1
    go_wp2_with fail
    refine HS1.out.mono ?_
    rintro e w1 ⟨b1, rfl, hb1, hw⟩
    rw [hw]
    have HB1 := Lib.hid hb1
    clear hw w1 hb1
    cases b1
    · go_wp2_with fail
      refine (awake17 w0).mono ?_
      rintro e w1 ⟨rfl, hb⟩
      have HW := Lib.hid (HL.out.trans (hb.mono HL.out.size))
      clear hb
      go_wp2_with fail
      go_ret
      exact ⟨rfl, HW.out⟩
    · go_wp2_with fail
      refine HS2.out.mono ?_
      rintro e w1 ⟨b2, rfl, hb2, hw⟩
      rw [hw]
      have HB2 := Lib.hid hb2
      clear hw w1 hb2
      cases b2
      · go_wp2_with fail
        refine (awake17 w0).mono ?_
        rintro e w1 ⟨rfl, hb⟩
        have HW := Lib.hid (HL.out.trans (hb.mono HL.out.size))
        clear hb
        go_wp2_with fail
        go_ret
        exact ⟨rfl, HW.out⟩
      · have HSR := Lib.hid (HB1.out (by first | rfl | trivial))
        have HSF := Lib.hid (HB2.out (by first | rfl | trivial))
        clear HB1 HB2 HS1 HS2 r2 f2
        go_wp2_with fail
        refine (roll_any ao len cap w0 (by omega) (HN.out.below HL.out)).mono ?_
        rintro e w1 ⟨rfl, hd, hb1, hs1⟩
        obtain ⟨b, hbd⟩ : ∃ b, b = w0.heap.size := ⟨_, rfl⟩
        rw [← hbd] at hd hs1 ⊢
        have hb0 : w.heap.size + 2 ≤ b := by have := HFB.out.lt; omega
        have HD1 := Lib.hid hd
        have HRB1 := Lib.hid (HRB.out.below hb1 HRB.out.lt)
        have HFB1 := Lib.hid (HFB.out.below hb1 HFB.out.lt)
        have HL1 := Lib.hid (HL.out.trans (hb1.mono HL.out.size))
        clear hd hb1 hbd HRB HFB HL
        go_wp2_with fail
        refine (reader19 b w1 HD1.out).mono ?_
        rintro e w2 ⟨v1, tg1, p1, c1, us1, rfl, hl1, hE1, hd2, ho2⟩
        have HD2 := Lib.hid hd2
        have HE2 := Lib.hid hE1
        have HRB2 := Lib.hid (HRB1.out.but ho2 (by omega))
        have HFB2 := Lib.hid (HFB1.out.but ho2 (by omega))
        have HO2 := Lib.hid ho2
        clear hd2 hE1 ho2 HRB1 HFB1
        go_wp2_with fail
        refine (feed20 b w2 HD2.out).mono ?_
        rintro e w3 ⟨n2, v2, p2, c2, us2, rfl, hn2, hv20, hv21, hl2, hE2, hSG, hd3, ho3⟩
        have HD3 := Lib.hid hd3
        have HEb := Lib.hid hE2
        have HSG := Lib.hid hSG
        have HO3 := Lib.hid ho3
        clear hd3 hE2 hSG ho3
        go_upto_region 5 with (fail)
        obtain ⟨A, hA⟩ : ∃ A, A = w3.heap.size := ⟨_, rfl⟩
        obtain ⟨F, hF⟩ : ∃ F, F = w3.heap.size + 1 := ⟨_, rfl⟩
        obtain ⟨X, hX⟩ : ∃ X, X = (w3.alloc (.cells #[.int .i64 v1, .int .i64 tg1, .slice p1 us1.length c1] 24)).alloc (.cells #[.string n2, .int .i64 v2, .slice p2 us2.length c2] 26) := ⟨_, rfl⟩
        have hs1b : b < w1.heap.size := HD1.out.lt
        have hs2 := HO2.out.size
        have hs3 := HO3.out.size
        have HA5 := Lib.hid (show Blk A #[.int .i64 v1, .int .i64 tg1, .slice p1 us1.length c1] 24 X from by rw [hX, hA]; exact (Blk.new w3 _ _).alloc _)
        have HF5 := Lib.hid (show Blk F #[.string n2, .int .i64 v2, .slice p2 us2.length c2] 26 X from by rw [hX, hF]; exact Blk.new' _ _ _ (by simp))
        have HR5 := Lib.hid (show Blk w.heap.size #[.int .i64 rv, .int .i64 tag, .slice ar n cr] 24 X from by rw [hX]; exact ((HRB2.out.but HO3.out (by omega)).alloc _).alloc _)
        have HQ5 := Lib.hid (show Blk (w.heap.size + 1) #[.string fn, .int .i64 fv, .slice af m cf] 26 X from by rw [hX]; exact ((HFB2.out.but HO3.out (by omega)).alloc _).alloc _)
        have HEa5 := Lib.hid (show RowE w1.heap.size X (.slice p1 us1.length c1) us1 from by rw [hX]; exact ((HE2.out.but hs1b HO3.out).alloc _).alloc _)
        have HEb5 := Lib.hid (show RowE w2.heap.size X (.slice p2 us2.length c2) us2 from by rw [hX]; exact (HEb.out.alloc _).alloc _)
        have HD5 := Lib.hid (show Dice b X from by rw [hX]; exact dice_alloc (dice_alloc HD3.out _) _)
        have HK5 := Lib.hid (show But b w1.heap.size w1 X from by rw [hX]; exact but_alloc (but_alloc (but_then HO2.out HO3.out hs2) (by omega) _) (by simp; omega) _)
        have hAF : A ≠ F := by omega
        have hFb : F ≠ b := by omega
        have hAb : A ≠ b := by omega
        have hRb : w.heap.size ≠ b := by omega
        have hQb : w.heap.size + 1 ≠ b := by omega
        have hb1 : b < w1.heap.size := hs1b
        have hb2 : b < w2.heap.size := by omega
        have hbB : b < X.heap.size := HD5.out.lt
        have hbF : b < F := by omega
        have hw1F : w1.heap.size ≤ F := by omega
        have HLO := Lib.hid (show w2.heap.size ≤ F from by omega)
        rw [← hX, ← hF, ← hA]
        clear hX hA hF HRB2 HFB2 HE2 HEb HD3 HD2 HO2 HO3
        refine wp_region_tail 4 (by kernel_rfl) (fun listed a x => ∃ (l0 l1 l2 l3 : Bool) (t42 t43 t44 t45 : Value), listed = #[l0, l1, l2, l3, false, false, false] ∧ a = ⟨(.agg #[.int .i64 rv, .int .i64 tag, .slice ar n cr] :: .agg #[.string fn, .int .i64 fv, .slice af m cf] :: .slice ao len cap :: .pointer (some ⟨w.heap.size, 0, none⟩) :: .pointer (some ⟨w.heap.size + 1, 0, none⟩) :: undef :: .bool false :: .pointer (some ⟨b, 0, none⟩) :: .pointer (some ⟨A, 0, none⟩) :: .pointer (some ⟨F, 0, none⟩) :: undef :: undef :: undef :: undef :: undef :: undef :: undef :: undef :: undef :: undef :: .slice ao len cap :: .bool true :: .bool false :: .bool false :: .pointer (some ⟨w.heap.size, 2, none⟩) :: .slice ar n cr :: .bool true :: .bool false :: .bool false :: .bool false :: .pointer (some ⟨w.heap.size + 1, 2, none⟩) :: .slice af m cf :: .bool true :: .bool false :: .bool false :: undef :: .slice ao len cap :: .pointer (some ⟨b, 0, none⟩) :: .pointer (some ⟨b, 0, none⟩) :: .agg #[.int .i64 v1, .int .i64 tg1, .slice p1 us1.length c1] :: .pointer (some ⟨b, 0, none⟩) :: .agg #[.string n2, .int .i64 v2, .slice p2 us2.length c2] :: t42 :: t43 :: t44 :: t45 :: undef :: undef :: undef :: undef :: undef :: undef :: undef :: undef :: undef :: undef :: undef :: undef :: undef :: undef :: undef :: undef :: undef :: undef :: undef :: undef :: undef :: undef :: undef :: undef :: undef :: undef :: undef :: undef :: undef :: undef :: undef :: undef :: undef :: undef :: undef :: undef :: undef :: undef :: undef :: undef :: undef :: undef :: undef :: undef :: undef :: undef :: undef :: undef :: undef :: undef :: undef :: undef :: undef :: undef :: undef :: undef :: undef :: undef :: undef :: undef :: undef :: undef :: undef :: undef :: undef :: undef :: undef :: undef :: undef :: undef :: []).toArray, []⟩ ∧ Hid (l0 = true → t42 = .pointer (some ⟨F, 1, none⟩)) ∧ Hid (l1 = true → t43 = .int .i64 v2) ∧ Hid (l2 = true → t44 = .pointer (some ⟨b, 0, none⟩)) ∧ Hid (l3 = true → ∃ (n : Int), t45 = .int .i64 n ∧ 0 ≤ n ∧ n ≤ 5) ∧ Hid (Sofar b X x)) (by decide) (by kernel_rfl) (by kernel_rfl) ?_ ?_ ?_ ?_
        · exact ⟨false, false, false, false, _, _, _, _, rfl, rfl, Lib.hid (fun h => by cases h), Lib.hid (fun h => by cases h), Lib.hid (fun h => by cases h), Lib.hid (fun h => by cases h), Lib.hid (Sofar.start HD5.out)⟩
        · intro listed a x hj
          obtain ⟨l0, hj⟩ := hj
          obtain ⟨l1, hj⟩ := hj
          obtain ⟨l2, hj⟩ := hj
          obtain ⟨l3, hj⟩ := hj
          obtain ⟨t42, hj⟩ := hj
          obtain ⟨t43, hj⟩ := hj
          obtain ⟨t44, hj⟩ := hj
          obtain ⟨t45, hj⟩ := hj
          obtain ⟨h1, -⟩ := hj
          subst h1
          exact ⟨rfl, fun k h1 h2 => by (have h2 : k < 7 := h2); rcases (show k = 4 ∨ k = 5 ∨ k = 6 by omega) with rfl | rfl | rfl <;> rfl⟩
        · intro listed a x i hj hlt hu haf
          obtain ⟨l0, hj⟩ := hj
          obtain ⟨l1, hj⟩ := hj
          obtain ⟨l2, hj⟩ := hj
          obtain ⟨l3, hj⟩ := hj
          obtain ⟨t42, hj⟩ := hj
          obtain ⟨t43, hj⟩ := hj
          obtain ⟨t44, hj⟩ := hj
          obtain ⟨t45, hj⟩ := hj
          obtain ⟨hl_, hj⟩ := hj
          obtain ⟨ha_, hj⟩ := hj
          obtain ⟨H0, hj⟩ := hj
          obtain ⟨H1, hj⟩ := hj
          obtain ⟨H2, hj⟩ := hj
          obtain ⟨H3, hj⟩ := hj
          have HS := hj
          clear hj
          subst hl_
          subst ha_
          rcases (show ∀ i : Nat, i < 4 → (i = 0 ∨ i = 1 ∨ i = 2 ∨ i = 3) by decide) i hlt with rfl | rfl | rfl | rfl
          · have haf := haf _ rfl
            clear haf
            have hu : l0 = false := hu
            refine wpOp_of_list_any rfl fun QQ hQ => ?_
            have hQQ := Lib.hid hQ
            clear hQ
            simp only [List.getElem_toArray, List.getElem_cons_zero]
            go_wp2_with fail
            exact hQQ.out _ _ ⟨true, l1, l2, l3, _, _, _, _, rfl, rfl, Lib.hid (fun _ => rfl), H1, H2, H3, HS⟩
          · have haf := haf _ rfl
            have q0 : l0 = true := haf ⟨0, Go.Ground.data⟩ (by simp) rfl
            clear haf
            have hu : l1 = false := hu
            have e0 := (H0.out q0)
            subst e0
            clear H0
            have hc : x.cell? ⟨F, 1, none⟩ = some (.int .i64 v2) := (HS.out.blk HF5.out hFb).cell 1
            refine wpOp_of_list_any rfl fun QQ hQ => ?_
            have hQQ := Lib.hid hQ
            clear hQ
            simp only [List.getElem_toArray, List.getElem_cons_zero, List.getElem_cons_succ]
            go_wp2_with fail
            exact hQQ.out _ _ ⟨l0, true, l2, l3, _, _, _, _, rfl, rfl, Lib.hid (fun _ => rfl), Lib.hid (fun _ => rfl), H2, H3, HS⟩
          · have haf := haf _ rfl
            clear haf
            have hu : l2 = false := hu
            refine wpOp_of_list_any rfl fun QQ hQ => ?_
            have hQQ := Lib.hid hQ
            clear hQ
            simp only [List.getElem_toArray, List.getElem_cons_zero, List.getElem_cons_succ]
            go_wp2_with fail
            exact hQQ.out _ _ ⟨l0, l1, true, l3, _, _, _, _, rfl, rfl, H0, H1, Lib.hid (fun _ => rfl), H3, HS⟩
          · have haf := haf _ rfl
            have q2 : l2 = true := haf ⟨2, Go.Ground.data⟩ (by simp) rfl
            clear haf
            have hu : l3 = false := hu
            have e2 := (H2.out q2)
            subst e2
            clear H2
            refine wpOp_of_list_any rfl fun QQ hQ => ?_
            have hQQ := Lib.hid hQ
            clear hQ
            simp only [List.getElem_toArray, List.getElem_cons_zero, List.getElem_cons_succ]
            go_wp2_with fail
            refine (next_any b 6 _ HS.out.dice (by omega) (by omega)).mono ?_
            rintro e x1 ⟨v, rfl, h0, h1, -, hd1, ho1⟩
            have h1 := h1 (by omega)
            have hk := Kept.only ho1 hbB
            have HS1 := Lib.hid (HS.out.only hd1 ho1)
            clear ho1 hd1
            go_wp2_with fail
            exact hQQ.out _ _ ⟨l0, l1, l2, true, _, _, _, _, rfl, rfl, H0, H1, Lib.hid (fun _ => rfl), Lib.hid (fun _ => ⟨_, rfl, by omega, by omega⟩), HS1⟩
        · intro listed a x hj hall
          obtain ⟨l0, hj⟩ := hj
          obtain ⟨l1, hj⟩ := hj
          obtain ⟨l2, hj⟩ := hj
          obtain ⟨l3, hj⟩ := hj
          obtain ⟨t42, hj⟩ := hj
          obtain ⟨t43, hj⟩ := hj
          obtain ⟨t44, hj⟩ := hj
          obtain ⟨t45, hj⟩ := hj
          obtain ⟨hl_, hj⟩ := hj
          obtain ⟨ha_, hj⟩ := hj
          obtain ⟨H0, hj⟩ := hj
          obtain ⟨H1, hj⟩ := hj
          obtain ⟨H2, hj⟩ := hj
          obtain ⟨H3, hj⟩ := hj
          have HS := hj
          clear hj
          subst hl_
          subst ha_
          have q1 : l1 = true := hall 1 (by omega)
          have q3 : l3 = true := hall 3 (by omega)
          clear hall
          have e1 := (H1.out q1)
          subst e1
          obtain ⟨n3, e3, c3_0, c3_1⟩ := (H3.out q3)
          subst e3
          have HFx := Lib.hid (HS.out.blk HF5.out hFb)
          have HAx := Lib.hid (HS.out.blk HA5.out hAb)
          have HRx := Lib.hid (HS.out.blk HR5.out hRb)
          have HQx := Lib.hid (HS.out.blk HQ5.out hQb)
          have HEx := Lib.hid (HEa5.out.but hb1 HS.out.but)
          have HGx := Lib.hid (HEb5.out.but hb2 HS.out.but)
          have HKx := Lib.hid (but_then HK5.out HS.out.but HK5.out.size)
          have HDx := Lib.hid HS.out.dice
          have f1 : x.cell? ⟨F, 1, none⟩ = some (.int .i64 v2) := HFx.out.cell 1
          have z1 := HFx.out.frozen 1
          refine tail_any (fun a x => ∃ (t42 t43 t44 t45 t46 t47 : Value), a = ⟨(.agg #[.int .i64 rv, .int .i64 tag, .slice ar n cr] :: .agg #[.string fn, .int .i64 fv, .slice af m cf] :: .slice ao len cap :: .pointer (some ⟨w.heap.size, 0, none⟩) :: .pointer (some ⟨w.heap.size + 1, 0, none⟩) :: undef :: .bool false :: .pointer (some ⟨b, 0, none⟩) :: .pointer (some ⟨A, 0, none⟩) :: .pointer (some ⟨F, 0, none⟩) :: undef :: undef :: undef :: undef :: undef :: undef :: undef :: undef :: undef :: undef :: .slice ao len cap :: .bool true :: .bool false :: .bool false :: .pointer (some ⟨w.heap.size, 2, none⟩) :: .slice ar n cr :: .bool true :: .bool false :: .bool false :: .bool false :: .pointer (some ⟨w.heap.size + 1, 2, none⟩) :: .slice af m cf :: .bool true :: .bool false :: .bool false :: undef :: .slice ao len cap :: .pointer (some ⟨b, 0, none⟩) :: .pointer (some ⟨b, 0, none⟩) :: .agg #[.int .i64 v1, .int .i64 tg1, .slice p1 us1.length c1] :: .pointer (some ⟨b, 0, none⟩) :: .agg #[.string n2, .int .i64 v2, .slice p2 us2.length c2] :: t42 :: t43 :: t44 :: t45 :: t46 :: t47 :: undef :: undef :: undef :: undef :: undef :: undef :: undef :: undef :: undef :: undef :: undef :: undef :: undef :: undef :: undef :: undef :: undef :: undef :: undef :: undef :: undef :: undef :: undef :: undef :: undef :: undef :: undef :: undef :: undef :: undef :: undef :: undef :: undef :: undef :: undef :: undef :: undef :: undef :: undef :: undef :: undef :: undef :: undef :: undef :: undef :: undef :: undef :: undef :: undef :: undef :: undef :: undef :: undef :: undef :: undef :: undef :: undef :: undef :: undef :: undef :: undef :: undef :: undef :: undef :: undef :: undef :: undef :: undef :: []).toArray, []⟩ ∧ ∃ v : Int, Blk F #[.string n2, .int .i64 v, .slice p2 us2.length c2] 26 x ∧ Blk A #[.int .i64 v1, .int .i64 tg1, .slice p1 us1.length c1] 24 x ∧ Blk w.heap.size #[.int .i64 rv, .int .i64 tag, .slice ar n cr] 24 x ∧ Blk (w.heap.size + 1) #[.string fn, .int .i64 fv, .slice af m cf] 26 x ∧ RowE w1.heap.size x (.slice p1 us1.length c1) us1 ∧ RowE w2.heap.size x (.slice p2 us2.length c2) us2 ∧ Dice b x ∧ But b w1.heap.size w1 x) ?_ fun QQ hQ => ?_
          · intro a x hpost
            obtain ⟨t42, hpost⟩ := hpost
            obtain ⟨t43, hpost⟩ := hpost
            obtain ⟨t44, hpost⟩ := hpost
            obtain ⟨t45, hpost⟩ := hpost
            obtain ⟨t46, hpost⟩ := hpost
            obtain ⟨t47, hpost⟩ := hpost
            obtain ⟨ha_, hpost⟩ := hpost
            subst ha_
            obtain ⟨v5, q1, q2, q3, q4, q5, q6, q7, q8⟩ := hpost
            have HF6 := Lib.hid q1
            have HA6 := Lib.hid q2
            have HR6 := Lib.hid q3
            have HQ6 := Lib.hid q4
            have HEa6 := Lib.hid q5
            have HEb6 := Lib.hid q6
            have HD6 := Lib.hid q7
            have HK6 := Lib.hid q8
            clear q1 q2 q3 q4 q5 q6 q7 q8
            go_wp2_with fail
            refine (one_any b 7 _ HD6.out (by omega) (by omega)).mono ?_
            rintro e w7 ⟨z, rfl, hd7, ho7⟩
            have HF7 := Lib.hid (HF6.out.only ho7 hFb)
            have HA7 := Lib.hid (HA6.out.only ho7 hAb)
            have HR7 := Lib.hid (HR6.out.only ho7 hRb)
            have HQ7 := Lib.hid (HQ6.out.only ho7 hQb)
            have HEa7 := Lib.hid (HEa6.out.only hb1 ho7)
            have HEb7 := Lib.hid (HEb6.out.only hb2 ho7)
            have HD7 := Lib.hid hd7
            have HK7 := Lib.hid (but_only HK6.out ho7)
            have hs7 := HK7.out.size
            clear hd7 ho7 HF6 HA6 HR6 HQ6 HEa6 HEb6 HD6 HK6
            go_upto_if 49 with (fail)
            go_cut [52] (fun s52 wx => ∃ (nn : ByteArray) (vv : Int) (pp : Option Addr) (cc : Nat) (uu : List (Ev × Value × Value)), uu.length ≤ 20 ∧ Hid (Blk F #[.string nn, .int .i64 vv, .slice pp uu.length cc] 26 wx) ∧ Hid (Blk A #[.int .i64 v1, .int .i64 tg1, .slice p1 us1.length c1] 24 wx) ∧ Hid (Blk w.heap.size #[.int .i64 rv, .int .i64 tag, .slice ar n cr] 24 wx) ∧ Hid (Blk (w.heap.size + 1) #[.string fn, .int .i64 fv, .slice af m cf] 26 wx) ∧ Hid (RowE w1.heap.size wx (.slice p1 us1.length c1) us1) ∧ Hid (RowE w2.heap.size wx (.slice pp uu.length cc) uu) ∧ Hid (But b w1.heap.size w1 wx))
            case first =>
              cases z
              · go_wp2_with fail
                go_meet
                exact ⟨n2, v5, p2, c2, us2, by omega, HF7, HA7, HR7, HQ7, HEa7, HEb7, HK7⟩
              · have f0 : w7.cell? ⟨F, 0, none⟩ = some (.string n2) := HF7.out.cell 0
                have f1 : w7.cell? ⟨F, 1, none⟩ = some (.int .i64 v5) := HF7.out.cell 1
                have f2 : w7.cell? ⟨F, 2, none⟩ = some (.slice p2 us2.length c2) := HF7.out.cell 2
                go_wp2_with fail
                refine (oddfeed23 b w2.heap.size n2 v5 p2 c2 us2 w7 HD7.out hb2 (by have := HF7.out.lt; have := HLO.out; omega) HEb7.out hn2 (by omega) HSG.out).mono ?_
                rintro e w8 ⟨n9, v9, p9, c9, us9, rfl, hn9, hl9, E9, hd9, ho9⟩
                have HF8 := Lib.hid (HF7.out.but ho9 hFb)
                have HA8 := Lib.hid (HA7.out.but ho9 hAb)
                have HR8 := Lib.hid (HR7.out.but ho9 hRb)
                have HQ8 := Lib.hid (HQ7.out.but ho9 hQb)
                have HEa8 := Lib.hid (HEa7.out.but hb1 ho9)
                have HE8 := Lib.hid E9
                have HK8 := Lib.hid (but_then HK7.out ho9 HK7.out.size)
                clear f0 f1 f2 E9 hd9 ho9
                obtain ⟨r0, r1, r2⟩ := And.intro (HF8.out.cell 0) (And.intro (HF8.out.cell 1) (HF8.out.cell 2))
                simp only [List.getElem?_toArray, List.getElem?_cons_zero, List.getElem?_cons_succ] at r0 r1 r2
                obtain ⟨z0, z1, z2⟩ := And.intro (HF8.out.frozen 0) (And.intro (HF8.out.frozen 1) (HF8.out.frozen 2))
                go_wp2_with fail
                go_meet
                obtain ⟨W9, hW, B9, fX, fD, fK⟩ := fill3 HF8.out (.string n9) (.int .i64 v9) (.slice p9 us9.length c9)
                rw [← hW]
                have HA9 := Lib.hid (show Blk A _ 24 W9 from by rw [hW]; exact ((HA8.out.set_other hAF 0 _).set_other hAF 1 _).set_other hAF 2 _)
                have HR9 := Lib.hid (show Blk w.heap.size _ 24 W9 from by rw [hW]; exact ((HR8.out.set_other (show w.heap.size ≠ F by omega) 0 _).set_other (show w.heap.size ≠ F by omega) 1 _).set_other (show w.heap.size ≠ F by omega) 2 _)
                have HQ9 := Lib.hid (show Blk (w.heap.size + 1) _ 26 W9 from by rw [hW]; exact ((HQ8.out.set_other (show w.heap.size + 1 ≠ F by omega) 0 _).set_other (show w.heap.size + 1 ≠ F by omega) 1 _).set_other (show w.heap.size + 1 ≠ F by omega) 2 _)
                exact ⟨n9, v9, p9, c9, us9, hl9, Lib.hid B9, HA9, HR9, HQ9, Lib.hid (HEa8.out.map (ty := 26) (by decide) (by decide) fX), Lib.hid (HE8.out.map (ty := 26) (by decide) (by decide) fX), Lib.hid (fK b w1.heap.size w1 hw1F HK8.out)⟩
            case rest =>
              clear HF7 HA7 HR7 HQ7 HEa7 HEb7 HD7 HK7 hs7
              obtain ⟨nn, vv, pp, cc, uu, huu, HF, HA, HR, HQ, HEa, HEb, HK⟩ := hcut
              have hsc := HK.out.size
              have HL := Lib.hid (HL1.out.trans (HK.out.below (show w.heap.size ≤ b by omega) (show w.heap.size ≤ w1.heap.size by omega)))
              have r0 : wc.cell? ⟨w.heap.size, 0, none⟩ = some (.int .i64 rv) := HR.out.cell 0
              have r1 : wc.cell? ⟨w.heap.size, 1, none⟩ = some (.int .i64 tag) := HR.out.cell 1
              have r2 : wc.cell? ⟨w.heap.size, 2, none⟩ = some (.slice ar n cr) := HR.out.cell 2
              have a0 : wc.cell? ⟨A, 0, none⟩ = some (.int .i64 v1) := HA.out.cell 0
              have a1 : wc.cell? ⟨A, 1, none⟩ = some (.int .i64 tg1) := HA.out.cell 1
              have a2 : wc.cell? ⟨A, 2, none⟩ = some (.slice p1 us1.length c1) := HA.out.cell 2
              obtain ⟨G, hG⟩ : ∃ G, G = wc.heap.size := ⟨_, rfl⟩
              obtain ⟨Y, hY⟩ : ∃ Y, Y = wc.alloc (.cells #[.int .i64 rv, .int .i64 tag, .slice ar n cr, .int .i64 v1, .int .i64 tg1, .slice p1 us1.length c1, .int .i64 0, .int .i64 0, .slice none 0 0] 24) := ⟨_, rfl⟩
              have HG := Lib.hid (show Blk G #[.int .i64 rv, .int .i64 tag, .slice ar n cr, .int .i64 v1, .int .i64 tg1, .slice p1 us1.length c1, .int .i64 0, .int .i64 0, .slice none 0 0] 24 Y from by rw [hY, hG]; exact Blk.new wc _ _)
              have HY := Lib.hid (show Below wc.heap.size wc Y from by rw [hY]; exact below_box wc _)
              skip
              have HM0 := Lib.hid (show RdM Y ar n cr rs from RdM.below (w := wc) ⟨Hn.out, (HRS.out.below HL.out).mono HL.out.size, HRN.out, hrc, by have h := HSR.out.1; rw [List.length_map, ← Hn.out] at h; omega, fun t ht => by have h := HSR.out.2 t.1 (List.mem_map.2 ⟨t, ht, rfl⟩); omega⟩ HY.out)
              have HM1 := Lib.hid (show RdM Y p1 us1.length c1 us1 from (HEa.out.rdm (by omega)).below HY.out)
              have HM2 := Lib.hid (show RdM Y none 0 0 [] from ⟨rfl, Seg.nil _ _ _, fun _ => rfl, Nat.le_refl _, Nat.zero_le _, fun t h => by cases h⟩)
              go_upto_block 1 with fail
              rw [← hY, ← hG]
              clear hY hG r0 r1 r2 a0 a1 a2
              go_wp2_with fail
              go_loopw [58] (fun iv wr => ∃ i : Nat, iv = .int .i64 i ∧ i ≤ 3 ∧ Hid (Below Y.heap.size Y wr)) (fun iv _ => 3 - (intOf iv).toNat)
              case atStart => exact ⟨0, rfl, Nat.zero_le _, Lib.hid (Below.refl _ _)⟩
              case round =>
                obtain ⟨i, rfl, hi3, HB⟩ := hrel
                by_cases hlt : i < 3
                · have hlti : (i : Int) < 3 := by omega
                  have HGr := Lib.hid (HG.out.below HB.out HG.out.lt)
                  obtain ⟨xv, xt, xa, xn, xc, xs, g0, g1, g2, hM⟩ : ∃ (xv xt : Int) (xa : Option Addr) (xn xc : Nat) (xs : List (Ev × Value × Value)), wr.cell? ⟨G, i * 3, none⟩ = some (.int .i64 xv) ∧ wr.cell? ⟨G, i * 3 + 1, none⟩ = some (.int .i64 xt) ∧ wr.cell? ⟨G, i * 3 + 2, none⟩ = some (.slice xa xn xc) ∧ RdM wr xa xn xc xs := by
                    rcases (show i = 0 ∨ i = 1 ∨ i = 2 by omega) with rfl | rfl | rfl
                    · exact ⟨rv, tag, ar, n, cr, rs, HGr.out.cell 0, HGr.out.cell 1, HGr.out.cell 2, HM0.out.below HB.out⟩
                    · exact ⟨v1, tg1, p1, us1.length, c1, us1, HGr.out.cell 3, HGr.out.cell 4, HGr.out.cell 5, HM1.out.below HB.out⟩
                    · exact ⟨0, 0, none, 0, 0, [], HGr.out.cell 6, HGr.out.cell 7, HGr.out.cell 8, HM2.out.below HB.out⟩
                  have HMx := Lib.hid hM
                  clear hM
                  go_upto_region 11 with (fail)
                  obtain ⟨Z, hZ⟩ : ∃ Z, Z = wr.alloc (.cells #[.int .i64 xv, .int .i64 xt, .slice xa xn xc] 24) := ⟨_, rfl⟩
                  have HXB := Lib.hid (show Blk wr.heap.size #[.int .i64 xv, .int .i64 xt, .slice xa xn xc] 24 Z from by rw [hZ]; exact Blk.new wr _ _)
                  have HZ := Lib.hid (show Below wr.heap.size wr Z from by rw [hZ]; exact below_box wr _)
                  have HMz := Lib.hid (HMx.out.below HZ.out)
                  rw [← hZ]
                  obtain ⟨H, hH⟩ : ∃ H, H = wr.heap.size := ⟨_, rfl⟩
                  have HBZ := Lib.hid (show Below Y.heap.size Y Z from HB.out.trans (HZ.out.mono HB.out.size))
                  rw [← hH] at HXB ⊢
                  clear hZ hH g0 g1 g2 HB HZ HGr HMx
                  refine wp_region_tail 3 (by kernel_rfl) (fun listed a x => ∃ (l0 l1 l2 : Bool) (t62 t63 t64 : Value), listed = #[l0, l1, l2, false, false] ∧ a = ⟨(.agg #[.int .i64 rv, .int .i64 tag, .slice ar n cr] :: .agg #[.string fn, .int .i64 fv, .slice af m cf] :: .slice ao len cap :: .pointer (some ⟨w.heap.size, 0, none⟩) :: .pointer (some ⟨w.heap.size + 1, 0, none⟩) :: undef :: u6 :: .pointer (some ⟨b, 0, none⟩) :: .pointer (some ⟨A, 0, none⟩) :: .pointer (some ⟨F, 0, none⟩) :: undef :: .pointer (some ⟨H, 0, none⟩) :: undef :: u13 :: u14 :: u15 :: u16 :: u17 :: u18 :: u19 :: u20 :: u21 :: u22 :: u23 :: u24 :: u25 :: u26 :: u27 :: u28 :: u29 :: u30 :: u31 :: u32 :: u33 :: u34 :: u35 :: u36 :: u37 :: u38 :: u39 :: u40 :: u41 :: u42 :: u43 :: u44 :: u45 :: u46 :: u47 :: u48 :: u49 :: u50 :: u51 :: u52 :: .agg #[.int .i64 rv, .int .i64 tag, .slice ar n cr] :: .agg #[.int .i64 v1, .int .i64 tg1, .slice p1 us1.length c1] :: .agg #[.int .i64 0, .int .i64 0, .slice none 0 0] :: .slice (some ⟨G, 0, none⟩) 3 3 :: .int .i64 3 :: .int .i64 i :: .bool true :: .pointer (some ⟨G, i * 3, none⟩) :: .agg #[.int .i64 xv, .int .i64 xt, .slice xa xn xc] :: t62 :: t63 :: t64 :: u65 :: u66 :: u67 :: u68 :: u69 :: u70 :: u71 :: u72 :: u73 :: u74 :: u75 :: u76 :: u77 :: u78 :: u79 :: u80 :: u81 :: u82 :: u83 :: u84 :: u85 :: u86 :: u87 :: u88 :: u89 :: u90 :: u91 :: u92 :: u93 :: u94 :: u95 :: u96 :: u97 :: u98 :: u99 :: u100 :: u101 :: u102 :: u103 :: u104 :: u105 :: u106 :: u107 :: u108 :: u109 :: u110 :: u111 :: u112 :: u113 :: u114 :: u115 :: []).toArray, []⟩ ∧ Hid (l0 = true → t62 = .agg #[.int .i64 xv, .int .i64 xt, .slice xa xn xc]) ∧ Hid (l1 = true → t63 = .bool (rdOk xv (xs.map (·.1)))) ∧ Hid (l2 = true → t64 = .agg #[.int .i64 xv, .int .i64 xt, .slice xa xn xc]) ∧ Hid (Made Z x)) (by decide) (by kernel_rfl) (by kernel_rfl) ?_ ?_ ?_ ?_
                  · exact ⟨false, false, false, _, _, _, rfl, rfl, Lib.hid (fun h => by cases h), Lib.hid (fun h => by cases h), Lib.hid (fun h => by cases h), Lib.hid (Made.start Z)⟩
                  · intro listed a x hj
                    obtain ⟨l0, hj⟩ := hj
                    obtain ⟨l1, hj⟩ := hj
                    obtain ⟨l2, hj⟩ := hj
                    obtain ⟨t62, hj⟩ := hj
                    obtain ⟨t63, hj⟩ := hj
                    obtain ⟨t64, hj⟩ := hj
                    obtain ⟨h1, -⟩ := hj
                    subst h1
                    exact ⟨rfl, fun k h1 h2 => by (have h2 : k < 5 := h2); rcases (show k = 3 ∨ k = 4 by omega) with rfl | rfl <;> rfl⟩
                  · intro listed a x i hj hlt hu haf
                    obtain ⟨l0, hj⟩ := hj
                    obtain ⟨l1, hj⟩ := hj
                    obtain ⟨l2, hj⟩ := hj
                    obtain ⟨t62, hj⟩ := hj
                    obtain ⟨t63, hj⟩ := hj
                    obtain ⟨t64, hj⟩ := hj
                    obtain ⟨hl_, hj⟩ := hj
                    obtain ⟨ha_, hj⟩ := hj
                    obtain ⟨H0, hj⟩ := hj
                    obtain ⟨H1, hj⟩ := hj
                    obtain ⟨H2, hj⟩ := hj
                    have HS := hj
                    clear hj
                    subst hl_
                    subst ha_
                    rcases (show ∀ i : Nat, i < 3 → (i = 0 ∨ i = 1 ∨ i = 2) by decide) i hlt with rfl | rfl | rfl
                    · have haf := haf _ rfl
                      clear haf
                      have hu : l0 = false := hu
                      have x0 : x.cell? ⟨H, 0, none⟩ = some (.int .i64 xv) := (HS.out.blk HXB.out).cell 0
                      have x1 : x.cell? ⟨H, 1, none⟩ = some (.int .i64 xt) := (HS.out.blk HXB.out).cell 1
                      have x2 : x.cell? ⟨H, 2, none⟩ = some (.slice xa xn xc) := (HS.out.blk HXB.out).cell 2
                      refine wpOp_of_list_any rfl fun QQ hQ => ?_
                      have hQQ := Lib.hid hQ
                      clear hQ
                      simp only [List.getElem_toArray, List.getElem_cons_zero]
                      go_wp2_with fail
                      exact hQQ.out _ _ ⟨true, l1, l2, _, _, _, rfl, rfl, Lib.hid (fun _ => rfl), H1, H2, HS⟩
                    · have haf := haf _ rfl
                      have q0 : l0 = true := haf ⟨0, Go.Ground.data⟩ (by simp) rfl
                      clear haf
                      have hu : l1 = false := hu
                      have e0 := (H0.out q0)
                      subst e0
                      clear H0
                      refine wpOp_of_list_any rfl fun QQ hQ => ?_
                      have hQQ := Lib.hid hQ
                      clear hQ
                      simp only [List.getElem_toArray, List.getElem_cons_zero, List.getElem_cons_succ]
                      go_wp2_with fail
                      refine (show Calls Tryz.prog 24 #[.agg #[.int .i64 xv, .int .i64 xt, .slice xa xn xc]] x _ from by have h := valid24 xv xt (xs.map (·.1)) xa xc Z.heap.size x HS.out.below.size (HMz.out.seg.below HS.out.below).evs (by rw [List.length_map, ← HMz.out.len]; have := HMz.out.few; omega); rw [List.length_map, ← HMz.out.len] at h; exact h).mono ?_
                      rintro y x1 ⟨rfl, hb1⟩
                      have hk := Kept.made (B := Z.heap.size) hb1
                      have HS1 := Lib.hid (HS.out.then hb1)
                      clear hb1
                      go_wp2_with fail
                      exact hQQ.out _ _ ⟨l0, true, l2, _, _, _, rfl, rfl, Lib.hid (fun _ => rfl), Lib.hid (fun _ => rfl), H2, HS1⟩
                    · have haf := haf _ rfl
                      clear haf
                      have hu : l2 = false := hu
                      have x0 : x.cell? ⟨H, 0, none⟩ = some (.int .i64 xv) := (HS.out.blk HXB.out).cell 0
                      have x1 : x.cell? ⟨H, 1, none⟩ = some (.int .i64 xt) := (HS.out.blk HXB.out).cell 1
                      have x2 : x.cell? ⟨H, 2, none⟩ = some (.slice xa xn xc) := (HS.out.blk HXB.out).cell 2
                      refine wpOp_of_list_any rfl fun QQ hQ => ?_
                      have hQQ := Lib.hid hQ
                      clear hQ
                      simp only [List.getElem_toArray, List.getElem_cons_zero, List.getElem_cons_succ]
                      go_wp2_with fail
                      exact hQQ.out _ _ ⟨l0, l1, true, _, _, _, rfl, rfl, H0, H1, Lib.hid (fun _ => rfl), HS⟩
                  · intro listed a x hj hall
                    obtain ⟨l0, hj⟩ := hj
                    obtain ⟨l1, hj⟩ := hj
                    obtain ⟨l2, hj⟩ := hj
                    obtain ⟨t62, hj⟩ := hj
                    obtain ⟨t63, hj⟩ := hj
                    obtain ⟨t64, hj⟩ := hj
                    obtain ⟨hl_, hj⟩ := hj
                    obtain ⟨ha_, hj⟩ := hj
                    obtain ⟨H0, hj⟩ := hj
                    obtain ⟨H1, hj⟩ := hj
                    obtain ⟨H2, hj⟩ := hj
                    have HS := hj
                    clear hj
                    subst hl_
                    subst ha_
                    have q1 : l1 = true := hall 1 (by omega)
                    have q2 : l2 = true := hall 2 (by omega)
                    clear hall
                    have e1 := (H1.out q1)
                    subst e1
                    have e2 := (H2.out q2)
                    subst e2
                    refine tail_any (fun a x => ∃ (t62 t63 t64 t65 t66 : Value), a = ⟨(.agg #[.int .i64 rv, .int .i64 tag, .slice ar n cr] :: .agg #[.string fn, .int .i64 fv, .slice af m cf] :: .slice ao len cap :: .pointer (some ⟨w.heap.size, 0, none⟩) :: .pointer (some ⟨w.heap.size + 1, 0, none⟩) :: undef :: u6 :: .pointer (some ⟨b, 0, none⟩) :: .pointer (some ⟨A, 0, none⟩) :: .pointer (some ⟨F, 0, none⟩) :: undef :: .pointer (some ⟨H, 0, none⟩) :: undef :: u13 :: u14 :: u15 :: u16 :: u17 :: u18 :: u19 :: u20 :: u21 :: u22 :: u23 :: u24 :: u25 :: u26 :: u27 :: u28 :: u29 :: u30 :: u31 :: u32 :: u33 :: u34 :: u35 :: u36 :: u37 :: u38 :: u39 :: u40 :: u41 :: u42 :: u43 :: u44 :: u45 :: u46 :: u47 :: u48 :: u49 :: u50 :: u51 :: u52 :: .agg #[.int .i64 rv, .int .i64 tag, .slice ar n cr] :: .agg #[.int .i64 v1, .int .i64 tg1, .slice p1 us1.length c1] :: .agg #[.int .i64 0, .int .i64 0, .slice none 0 0] :: .slice (some ⟨G, 0, none⟩) 3 3 :: .int .i64 3 :: .int .i64 i :: .bool true :: .pointer (some ⟨G, i * 3, none⟩) :: .agg #[.int .i64 xv, .int .i64 xt, .slice xa xn xc] :: t62 :: t63 :: t64 :: t65 :: t66 :: u67 :: u68 :: u69 :: u70 :: u71 :: u72 :: u73 :: u74 :: u75 :: u76 :: u77 :: u78 :: u79 :: u80 :: u81 :: u82 :: u83 :: u84 :: u85 :: u86 :: u87 :: u88 :: u89 :: u90 :: u91 :: u92 :: u93 :: u94 :: u95 :: u96 :: u97 :: u98 :: u99 :: u100 :: u101 :: u102 :: u103 :: u104 :: u105 :: u106 :: u107 :: u108 :: u109 :: u110 :: u111 :: u112 :: u113 :: u114 :: u115 :: []).toArray, []⟩ ∧ t66 = .bool false ∧ Below Z.heap.size Z x) ?_ fun QQ hQ => ?_
                    · intro a x hpost
                      obtain ⟨t62, hpost⟩ := hpost
                      obtain ⟨t63, hpost⟩ := hpost
                      obtain ⟨t64, hpost⟩ := hpost
                      obtain ⟨t65, hpost⟩ := hpost
                      obtain ⟨t66, hpost⟩ := hpost
                      obtain ⟨ha_, hpost⟩ := hpost
                      subst ha_
                      obtain ⟨rfl, hb11⟩ := hpost
                      have HB11 := Lib.hid hb11
                      clear hb11
                      go_upto_region 13 with (fail)
                      have HX := Lib.hid (show Below wc.heap.size wc x from HY.out.trans ((HBZ.out.mono HY.out.size).trans (HB11.out.mono (Nat.le_trans HY.out.size HBZ.out.size))))
                      have HQx := Lib.hid (HQ.out.below HX.out HQ.out.lt)
                      have HFx := Lib.hid (HF.out.below HX.out HF.out.lt)
                      have q0 : x.cell? ⟨w.heap.size + 1, 0, none⟩ = some (.string fn) := HQx.out.cell 0
                      have q1 : x.cell? ⟨w.heap.size + 1, 1, none⟩ = some (.int .i64 fv) := HQx.out.cell 1
                      have q2 : x.cell? ⟨w.heap.size + 1, 2, none⟩ = some (.slice af m cf) := HQx.out.cell 2
                      have f0 : x.cell? ⟨F, 0, none⟩ = some (.string nn) := HFx.out.cell 0
                      have f1 : x.cell? ⟨F, 1, none⟩ = some (.int .i64 vv) := HFx.out.cell 1
                      have f2 : x.cell? ⟨F, 2, none⟩ = some (.slice pp uu.length cc) := HFx.out.cell 2
                      obtain ⟨Pb, hP⟩ : ∃ Pb, Pb = x.heap.size := ⟨_, rfl⟩
                      obtain ⟨V, hV⟩ : ∃ V, V = x.alloc (.cells #[.string fn, .int .i64 fv, .slice af m cf, .string nn, .int .i64 vv, .slice pp uu.length cc] 26) := ⟨_, rfl⟩
                      have HP := Lib.hid (show Blk Pb #[.string fn, .int .i64 fv, .slice af m cf, .string nn, .int .i64 vv, .slice pp uu.length cc] 26 V from by rw [hV, hP]; exact Blk.new x _ _)
                      have HXV := Lib.hid (show Below x.heap.size x V from by rw [hV]; exact below_box x _)
                      have HWV := Lib.hid (show Below wc.heap.size wc V from HX.out.trans (HXV.out.mono HX.out.size))
                      have HZV := Lib.hid (show Below Z.heap.size Z V from HB11.out.trans (HXV.out.mono HB11.out.size))
                      have HYV := Lib.hid (show Below Y.heap.size Y V from HBZ.out.trans (HZV.out.mono HBZ.out.size))
                      have HF0 := Lib.hid (show FdM V af m fs from FdM.below (w := wc) ⟨Hm.out, (HFS.out.below HL.out).mono HL.out.size, by have h := HSF.out.1; rw [List.length_map, ← Hm.out] at h; omega, fun t ht => by have h := HSF.out.2 t.1 (List.mem_map.2 ⟨t, ht, rfl⟩); omega⟩ HWV.out)
                      have HF1 := Lib.hid (show FdM V pp uu.length uu from ((HEb.out.rdm (by omega)).fd).below HWV.out)
                      have HMV := Lib.hid (HMz.out.below HZV.out)
                      have HHV := Lib.hid (HXB.out.below HZV.out HXB.out.lt)
                      go_upto_block 2 with fail
                      rw [← hV, ← hP]
                      clear hV hP q0 q1 q2 f0 f1 f2 HQx HFx HX HXV HZV HBZ HB11 HMz HXB HWV
                      go_wp2_with fail
                      go_loopw [71] (fun jv wr => ∃ j : Nat, jv = .int .i64 j ∧ j ≤ 2 ∧ Hid (Below V.heap.size V wr)) (fun jv _ => 2 - (intOf jv).toNat)
                      case atStart => exact ⟨0, rfl, Nat.zero_le _, Lib.hid (Below.refl _ _)⟩
                      case round =>
                        obtain ⟨j, rfl, hj2, HJ⟩ := hrel
                        by_cases hjt : j < 2
                        · have hjti : (j : Int) < 2 := by omega
                          have HPr := Lib.hid (HP.out.below HJ.out HP.out.lt)
                          obtain ⟨yn, yv, ya, ym, yc, ys, k0, k1, k2, hFd⟩ : ∃ (yn : ByteArray) (yv : Int) (ya : Option Addr) (ym yc : Nat) (ys : List (Ev × Value × Value)), wr.cell? ⟨Pb, j * 3, none⟩ = some (.string yn) ∧ wr.cell? ⟨Pb, j * 3 + 1, none⟩ = some (.int .i64 yv) ∧ wr.cell? ⟨Pb, j * 3 + 2, none⟩ = some (.slice ya ym yc) ∧ FdM wr ya ym ys := by
                            rcases (show j = 0 ∨ j = 1 by omega) with rfl | rfl
                            · exact ⟨fn, fv, af, m, cf, fs, HPr.out.cell 0, HPr.out.cell 1, HPr.out.cell 2, HF0.out.below HJ.out⟩
                            · exact ⟨nn, vv, pp, uu.length, cc, uu, HPr.out.cell 3, HPr.out.cell 4, HPr.out.cell 5, HF1.out.below HJ.out⟩
                          have HFd := Lib.hid hFd
                          clear hFd
                          go_upto_region 16 with (fail)
                          obtain ⟨I, hI⟩ : ∃ I, I = wr.heap.size := ⟨_, rfl⟩
                          obtain ⟨U, hU⟩ : ∃ U, U = wr.alloc (.cells #[.string yn, .int .i64 yv, .slice ya ym yc] 26) := ⟨_, rfl⟩
                          have HIB := Lib.hid (show Blk I #[.string yn, .int .i64 yv, .slice ya ym yc] 26 U from by rw [hU, hI]; exact Blk.new wr _ _)
                          have HrU := Lib.hid (show Below wr.heap.size wr U from by rw [hU]; exact below_box wr _)
                          have HVU := Lib.hid (show Below V.heap.size V U from HJ.out.trans (HrU.out.mono HJ.out.size))
                          have HFU := Lib.hid (HFd.out.below HrU.out)
                          have HYS := Lib.hid (show ys.length ≤ 1000000 from by have h1 := HFd.out.len; have h2 := HFd.out.few; omega)
                          have HRU := Lib.hid (HMV.out.below HVU.out)
                          have HHU := Lib.hid (HHV.out.below HVU.out HHV.out.lt)
                          have a0 : U.cell? ⟨H, 0, none⟩ = some (.int .i64 xv) := HHU.out.cell 0
                          have a1 : U.cell? ⟨H, 1, none⟩ = some (.int .i64 xt) := HHU.out.cell 1
                          have a2 : U.cell? ⟨H, 2, none⟩ = some (.slice xa xn xc) := HHU.out.cell 2
                          have b0 : U.cell? ⟨I, 0, none⟩ = some (.string yn) := HIB.out.cell 0
                          have b1 : U.cell? ⟨I, 1, none⟩ = some (.int .i64 yv) := HIB.out.cell 1
                          have b2 : U.cell? ⟨I, 2, none⟩ = some (.slice ya ym yc) := HIB.out.cell 2
                          rw [← hU, ← hI]
                          clear hU hI k0 k1 k2 HPr HFd HrU HJ
                          have HC26 := Lib.hid (show Calls Tryz.prog 26 #[.agg #[.int .i64 xv, .int .i64 xt, .slice xa xn xc], .agg #[.string yn, .int .i64 yv, .slice ya ym yc]] U (Merged xv xt (xs.map (·.1)) yn yv (ys.map (·.1)) U) from by have h := merge26 xv xt xa xc xs yn yv ya yc ys U HRU.out.seg HFU.out.seg (by have := HRU.out.few; have := HRU.out.len; omega) (by have := HFU.out.few; have := HFU.out.len; omega) HRU.out.ex HFU.out.ex; rw [← HRU.out.len, ← HFU.out.len] at h; exact h)
                          go_wp2_with fail
                          refine HC26.out.mono ?_
                          rintro e x2 ⟨v6, tag6, c6, pu, cu, us, pn, cn, ns, rfl, hmv, hRT, hRN, hb26⟩
                          have HMV1 := Lib.hid hmv
                          have HRT := Lib.hid hRT
                          have HRN1 := Lib.hid hRN
                          have HB26 := Lib.hid hb26
                          clear hmv hRT hRN hb26 HC26 a0 a1 a2 b0 b1 b2
                          go_upto_region 17 with (fail)
                          obtain ⟨J1, hJ1⟩ : ∃ J1, J1 = x2.heap.size := ⟨_, rfl⟩
                          obtain ⟨U2, hU2⟩ : ∃ U2, U2 = x2.alloc (.cells #[.int .i64 v6, .int .i64 tag6, .slice pu us.length cu] 24) := ⟨_, rfl⟩
                          have HJB := Lib.hid (show Blk J1 #[.int .i64 v6, .int .i64 tag6, .slice pu us.length cu] 24 U2 from by rw [hU2, hJ1]; exact Blk.new x2 _ _)
                          have Hx2 := Lib.hid (show Below x2.heap.size x2 U2 from by rw [hU2]; exact below_box x2 _)
                          have HUU := Lib.hid (show Below U.heap.size U U2 from HB26.out.trans (Hx2.out.mono HB26.out.size))
                          have HRT2 := Lib.hid (HRT.out.made Hx2.out)
                          have HRN2 := Lib.hid (show RowN U.heap.size U2 (.slice pn ns.length cn) ns from row_made HRN1.out Hx2.out)
                          have HF2 := Lib.hid (HFU.out.below HUU.out)
                          have HR2 := Lib.hid (HRU.out.below HUU.out)
                          have HH2 := Lib.hid (HHU.out.below HUU.out HHU.out.lt)
                          have HI2 := Lib.hid (HIB.out.below HUU.out HIB.out.lt)
                          have HVU2 := Lib.hid (show Below V.heap.size V U2 from HVU.out.trans (HUU.out.mono HVU.out.size))
                          have a0 : U2.cell? ⟨H, 0, none⟩ = some (.int .i64 xv) := HH2.out.cell 0
                          have a1 : U2.cell? ⟨H, 1, none⟩ = some (.int .i64 xt) := HH2.out.cell 1
                          have a2 : U2.cell? ⟨H, 2, none⟩ = some (.slice xa xn xc) := HH2.out.cell 2
                          have b0 : U2.cell? ⟨I, 0, none⟩ = some (.string yn) := HI2.out.cell 0
                          have b1 : U2.cell? ⟨I, 1, none⟩ = some (.int .i64 yv) := HI2.out.cell 1
                          have b2 : U2.cell? ⟨I, 2, none⟩ = some (.slice ya ym yc) := HI2.out.cell 2
                          rw [← hU2, ← hJ1]
                          clear hU2 hJ1 HRT HRN1 HB26 Hx2 HFU HRU HHU HIB HVU HUU
                          have HC27 := Lib.hid (show Calls Tryz.prog 27 #[.agg #[.int .i64 xv, .int .i64 xt, .slice xa xn xc], .agg #[.string yn, .int .i64 yv, .slice ya ym yc]] U2 (MergedR xv xt (xs.map (·.1)) yn yv (ys.map (·.1)) U2) from by have h := merge27 xv xt xa xc xs yn yv ya yc ys U2 HR2.out.seg HF2.out.seg HR2.out.nil (by have := HR2.out.cap; have := HR2.out.len; omega) (by have := HR2.out.few; have := HR2.out.len; omega) (by have := HF2.out.few; have := HF2.out.len; omega); rw [← HR2.out.len, ← HF2.out.len] at h; exact h)
                          go_wp2_with fail
                          refine HC27.out.mono ?_
                          rintro e x3 ⟨v7, tag7, c7, pu7, cu7, us7, pn7, cn7, ns7, rfl, hmv, hEV, hRN, hb27⟩
                          have heq := HMV1.out.trans hmv.symm
                          simp only [Prod.mk.injEq] at heq
                          obtain ⟨e1, e2, e3, e4, e5⟩ := heq
                          subst e1
                          subst e2
                          subst e4
                          subst e5
                          have HUS := Lib.hid e3
                          have HEV := Lib.hid hEV
                          have HRN7 := Lib.hid hRN
                          have HB27 := Lib.hid hb27
                          clear hmv hEV hRN hb27 HC27 a0 a1 a2 b0 b1 b2 e3
                          go_upto_region 18 with (fail)
                          obtain ⟨K1, hK1⟩ : ∃ K1, K1 = x3.heap.size := ⟨_, rfl⟩
                          obtain ⟨U3, hU3⟩ : ∃ U3, U3 = x3.alloc (.cells #[.int .i64 v6, .int .i64 tag6, .slice pu7 us7.length cu7] 24) := ⟨_, rfl⟩
                          have HKB := Lib.hid (show Blk K1 #[.int .i64 v6, .int .i64 tag6, .slice pu7 us7.length cu7] 24 U3 from by rw [hU3, hK1]; exact Blk.new x3 _ _)
                          have Hx3 := Lib.hid (show Below x3.heap.size x3 U3 from by rw [hU3]; exact below_box x3 _)
                          have HUU := Lib.hid (show Below U2.heap.size U2 U3 from HB27.out.trans (Hx3.out.mono HB27.out.size))
                          have HRT3 := Lib.hid (HRT2.out.made HUU.out)
                          have HRN3 := Lib.hid (show RowN U.heap.size U3 (.slice pn ns.length cn) ns from row_made HRN2.out HUU.out)
                          have HRN4 := Lib.hid (show RowN U2.heap.size U3 (.slice pn7 ns.length cn7) ns from row_made HRN7.out Hx3.out)
                          have HEV3 := Lib.hid ((HEV.out.below Hx3.out).mono Hx3.out.size)
                          have HJ3 := Lib.hid (HJB.out.below HUU.out HJB.out.lt)
                          have HVU3 := Lib.hid (show Below V.heap.size V U3 from HVU2.out.trans (HUU.out.mono HVU2.out.size))
                          have a0 : U3.cell? ⟨J1, 0, none⟩ = some (.int .i64 v6) := HJ3.out.cell 0
                          have a1 : U3.cell? ⟨J1, 1, none⟩ = some (.int .i64 tag6) := HJ3.out.cell 1
                          have a2 : U3.cell? ⟨J1, 2, none⟩ = some (.slice pu us.length cu) := HJ3.out.cell 2
                          have b0 : U3.cell? ⟨K1, 0, none⟩ = some (.int .i64 v6) := HKB.out.cell 0
                          have b1 : U3.cell? ⟨K1, 1, none⟩ = some (.int .i64 tag6) := HKB.out.cell 1
                          have b2 : U3.cell? ⟨K1, 2, none⟩ = some (.slice pu7 us7.length cu7) := HKB.out.cell 2
                          rw [← hU3, ← hK1]
                          clear hU3 hK1 HRT2 HRN2 HRN7 HB27 Hx3 HEV HJB HKB HVU2 HUU HF2 HR2 HH2 HI2
                          have HLE := Lib.hid (merge_len xv xt (xs.map (·.1)) yn yv (ys.map (·.1)))
                          have HUL := Lib.hid (show (us.map (·.1)).length ≤ 4000000 ∧ ns.length ≤ 4000000 from by have h := HLE.out; rw [← HMV1.out] at h; simp only [List.length_map] at h ⊢; have h1 := HMV.out.few; have h2 := HMV.out.len; have h3 := HYS.out; omega)
                          have HSG := Lib.hid (show Evs U3.heap.size U3 pu (us.map (·.1)) from by obtain ⟨qa, qc, hq, -, hsg⟩ := HRT3.out.seg; simp only [Value.slice.injEq] at hq; rw [hq.1]; exact hsg.evs)
                          have HC28 := Lib.hid (show Calls Tryz.prog 28 #[.agg #[.int .i64 v6, .int .i64 tag6, .slice pu us.length cu], .agg #[.int .i64 v6, .int .i64 tag6, .slice pu7 us7.length cu7]] U3 (fun e w' => e = .returned (.bool true) ∧ Below U3.heap.size U3 w') from by have h := samerd28 v6 tag6 v6 tag6 (us.map (·.1)) us7 pu pu7 cu cu7 U3.heap.size U3 (Nat.le_refl _) HSG.out HEV3.out (by have := HUL.out; omega); rw [List.length_map, decide_eq_true (p := v6 = v6 ∧ tag6 = tag6 ∧ us.map (·.1) = us7) ⟨rfl, rfl, HUS.out⟩] at h; exact h)
                          have hcc : (c6 != c6) = false := by simp
                          go_wp2_with fail
                          refine HC28.out.mono ?_
                          rintro e x4 ⟨rfl, hb4⟩
                          have HB4 := Lib.hid hb4
                          clear hb4 HC28
                          have HRT4 := Lib.hid (HRT3.out.made HB4.out)
                          have HJ4 := Lib.hid (HJ3.out.below HB4.out HJ3.out.lt)
                          have HVU4 := Lib.hid (show Below V.heap.size V x4 from HVU3.out.trans (HB4.out.mono HVU3.out.size))
                          have HC29 := Lib.hid (show Calls Tryz.prog 29 #[.slice pn ns.length cn, .slice pn7 ns.length cn7] x4 (fun e w' => e = .returned (.bool true) ∧ Below x4.heap.size x4 w') from by obtain ⟨pa, ca, hq, h1⟩ := RowN.nts (show RowN U.heap.size x4 (.slice pn ns.length cn) ns from row_made HRN3.out HB4.out); obtain ⟨pb, cb, hq2, h2⟩ := RowN.nts (show RowN U2.heap.size x4 (.slice pn7 ns.length cn7) ns from row_made HRN4.out HB4.out); simp only [Value.slice.injEq] at hq hq2; rw [← hq.1] at h1; rw [← hq2.1] at h2; have h := saments29 ns ns pn pn7 cn cn7 x4.heap.size x4 h1 h2 (by have := HUL.out; omega); rw [decide_eq_true (p := ns = ns) rfl] at h; exact h)
                          clear a0 a1 a2 b0 b1 b2 HRN3 HRN4 HRT3 HJ3 HVU3 HSG HEV3 HB4
                          go_wp2_with fail
                          refine HC29.out.mono ?_
                          rintro e x5 ⟨rfl, hb5⟩
                          have HB5 := Lib.hid hb5
                          clear hb5 HC29
                          have HRT5 := Lib.hid (HRT4.out.made HB5.out)
                          have HJ5 := Lib.hid (HJ4.out.below HB5.out HJ4.out.lt)
                          have HVU5 := Lib.hid (show Below V.heap.size V x5 from HVU4.out.trans (HB5.out.mono HVU4.out.size))
                          have a0 : x5.cell? ⟨J1, 0, none⟩ = some (.int .i64 v6) := HJ5.out.cell 0
                          have a1 : x5.cell? ⟨J1, 1, none⟩ = some (.int .i64 tag6) := HJ5.out.cell 1
                          have a2 : x5.cell? ⟨J1, 2, none⟩ = some (.slice pu us.length cu) := HJ5.out.cell 2
                          clear HRT4 HJ4 HVU4 HB5
                          by_cases hc0 : c6 = 0
                          · subst hc0
                            have HOK := Lib.hid (show rdOk v6 (us.map (·.1)) = true from by have h := merged_ok (rv := xv) (tag := xt) (es := xs.map (·.1)) (n := yn) (v := yv) (fs := ys.map (·.1)) (by rw [← HMV1.out]); rw [← HMV1.out] at h; exact h)
                            have HC24 := Lib.hid (show Calls Tryz.prog 24 #[.agg #[.int .i64 v6, .int .i64 tag6, .slice pu us.length cu]] x5 (fun e w' => e = .returned (.bool true) ∧ Below x5.heap.size x5 w') from by obtain ⟨qa, qc, hq, -, hsg⟩ := HRT5.out.seg; simp only [Value.slice.injEq] at hq; rw [← hq.1] at hsg; have h := valid24 v6 tag6 (us.map (·.1)) pu cu x5.heap.size x5 (Nat.le_refl _) hsg.evs (by have := HUL.out; omega); rw [List.length_map, HOK.out] at h; exact h)
                            go_wp2_with fail
                            refine HC24.out.mono ?_
                            rintro e x6 ⟨rfl, hb6⟩
                            have HVU6 := Lib.hid (show Below V.heap.size V x6 from HVU5.out.trans (hb6.mono HVU5.out.size))
                            clear hb6 HC24 a0 a1 a2 HVU5
                            go_wp2_with fail
                            go_roundw
                            case rel => exact ⟨j + 1, by go_num, by omega, HVU6⟩
                            case measure => simp [intOf]; omega
                          · have hcb : (c6 == 0) = false := by simp [hc0]
                            go_wp2_with fail
                            go_roundw
                            case rel => exact ⟨j + 1, by go_num, by omega, HVU5⟩
                            case measure => simp [intOf]; omega
                        · have hjti : ¬ (j : Int) < 2 := by omega
                          go_wp2_with fail
                          go_roundw
                          case rel => exact ⟨i + 1, by go_num, by omega, Lib.hid (HYV.out.trans (HJ.out.mono HYV.out.size))⟩
                          case measure => simp [intOf]; omega
                    have hQQ := Lib.hid hQ
                    clear hQ
                    simp only [List.drop_succ_cons, List.drop_zero]
                    go_wp2_with fail
                    refine (show Calls Tryz.prog 25 #[.agg #[.int .i64 xv, .int .i64 xt, .slice xa xn xc]] x _ from by have h := valid25 xv xt (xs.map (·.1)) xa xc Z.heap.size x HS.out.below.size (HMz.out.seg.below HS.out.below).evs (by rw [List.length_map, ← HMz.out.len]; have := HMz.out.few; omega); rw [List.length_map, ← HMz.out.len] at h; exact h).mono ?_
                    rintro y x1 ⟨rfl, hb1⟩
                    have HS1 := Lib.hid (HS.out.then hb1)
                    clear hb1
                    go_wp2_with fail
                    exact hQQ.out _ _ ⟨_, _, _, _, _, rfl, by simp, HS1.out.below⟩
                · have hlti : ¬ (i : Int) < 3 := by omega
                  go_wp2_with fail
                  refine (awake17 wr).mono ?_
                  rintro e w9 ⟨rfl, hb9⟩
                  have HW := Lib.hid (HL.out.trans ((HY.out.mono HL.out.size).trans ((HB.out.mono (Nat.le_trans HL.out.size HY.out.size)).trans (hb9.mono (Nat.le_trans HL.out.size (Nat.le_trans HY.out.size HB.out.size))))))
                  clear hb9
                  go_wp2_with fail
                  go_ret
                  exact ⟨rfl, HW.out⟩
          have hQQ := Lib.hid hQ
          clear hQ
          simp only [List.drop_succ_cons, List.drop_zero]
          go_wp2_with fail
          exact hQQ.out _ _ ⟨_, _, _, _, _, _, rfl, _, HFx.out.set 1 _, HAx.out.set_other (by omega) 1 _, HRx.out.set_other (by omega) 1 _, HQx.out.set_other (by omega) 1 _, HEx.out.set HFx.out (by decide) (by decide) 1 _, HGx.out.set HFx.out (by decide) (by decide) 1 _, dice_set (i := 1) HDx.out hbF, but_set (i := 1) HKx.out hw1F⟩
  · have hd1 : decide ((len : Int) ≤ 400) = false := decide_eq_false hlen
    go_enter Tryz.func3, Tryz.ntmps3
    go_upto_region 1 with (fail)
    rw [← hw0]
    clear hw0
    go_wp2_with fail
    refine (light_any _ _ _ _).mono ?_
    rintro e w1 ⟨rfl, hw⟩
    rw [hw, hd1]
    clear hw w1 hd1
    go_wp2_with fail
    refine (awake17 w0).mono ?_
    rintro e w1 ⟨rfl, hb⟩
    have HW := Lib.hid (HL.out.trans (hb.mono HL.out.size))
    clear hb
    go_wp2_with fail
    go_ret
    exact ⟨rfl, HW.out⟩
end Go.Proofs.YtageielcdebjlaaGreatDoor
