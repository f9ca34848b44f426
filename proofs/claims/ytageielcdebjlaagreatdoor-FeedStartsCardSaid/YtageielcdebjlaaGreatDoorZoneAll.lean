/- The offset at an instant, and the instants of a local time (zone.Instants, timetableref38.offset, timetableref38.Instants): their contracts. The offset at an instant, and the instants of a local time (timetableref38.Instants): their contracts. What a local time means (zone.Resolve, timetableref38.Resolve): their contracts. Plain: the instants at which an event starts. No program in sight. Condition: none. -/
import Derived.Test.YtageielcdebjlaaGreatDoorZoneW2
import Derived.Test.YtageielcdebjlaaGreatDoorDaysAll
import Derived.Test.YtageielcdebjlaaGreatDoorUidAll
import Derived.Test.YtageielcdebjlaaGreatDoorZone
-- ZoneI
namespace Go.Proofs.YtageielcdebjlaaGreatDoor
open Go.RowKit

set_option maxHeartbeats 4000000 in
set_option maxRecDepth 100000 in
theorem offset265 (n : ByteArray) (v : Int) (sh : List (Int × Int)) (ao : Option Addr) (c : Nat) (B : Nat) (t : Int) (w : World) (hB : B ≤ w.heap.size) (hE : Shs B w ao sh) (hn : sh.length ≤ 4611686018427387903) :
    Calls Tryz.prog 265 #[.agg #[.string n, .int .i64 v, .slice ao sh.length c], .int .i64 t] w fun e w' => e = .returned (.int .i64 (Tt.offAt v sh t)) ∧ Below w.heap.size w w' := by
  have HE := Lib.hid hE
  clear hE
  have F0 : ZoneB w.heap.size n v (.slice ao sh.length c) (w.alloc (.cells #[.string n, .int .i64 v, .slice ao sh.length c] 50)) := heap_alloc_new w _
  have HF0 := Lib.hid F0
  clear F0
  go_enter Tryz.func265, Tryz.ntmps265
  obtain ⟨f0, f1, f2⟩ := HF0.out.c
  go_wp2_with fail
  clear f0 f1 f2
  go_loopw [5, 6] (fun ov iv wr => ∃ (k : Nat) (of : Int), ov = .int .i64 of ∧ iv = .int .i64 k ∧ k ≤ sh.length ∧ Below w.heap.size w wr ∧ Hid (ZoneB w.heap.size n v (.slice ao sh.length c) wr) ∧ Hid (Tt.offAt v sh t = Tt.offAt of (sh.drop k) t)) (fun _ iv _ => sh.length - (intOf iv).toNat)
  case atStart => exact ⟨0, v, rfl, rfl, Nat.zero_le _, below_box _ _, HF0.out, rfl⟩
  case round =>
    obtain ⟨k, of, rfl, rfl, hk, hbe, HF, HK⟩ := hrel
    obtain ⟨f0, f1, f2⟩ := HF.out.c
    by_cases hlt : k < sh.length
    · obtain ⟨x, hx⟩ : ∃ x, sh[k]? = some x := ⟨_, List.getElem?_eq_getElem hlt⟩
      obtain ⟨b, o, ha, hb, hev⟩ := HE.out.form (by omega)
      subst ha
      obtain ⟨a0, a1⟩ := hev k x hx
      have c0 := (hbe.cell (p := ⟨b, o + k * 2, none⟩) (by simp; omega)).trans a0
      have c1 := (hbe.cell (p := ⟨b, o + k * 2 + 1, none⟩) (by simp; omega)).trans a1
      have hki : (k : Int) < (sh.length : Int) := by omega
      have HSTEP := Lib.hid (show Tt.offAt v sh t = Tt.offAt (if x.1 ≤ t then x.2 else of) (sh.drop (k + 1)) t by
        obtain ⟨g1, g2⟩ := List.getElem?_eq_some_iff.1 hx
        rw [HK.out, List.drop_eq_getElem_cons g1, g2]; rfl)
      clear a0 a1 hev hx HK
      obtain ⟨at1, of1⟩ := x
      simp only at c0 c1 HSTEP
      by_cases hc : at1 ≤ t
      · have HR := Lib.hid (HSTEP.out.trans (by rw [if_pos hc]))
        go_wp2_with fail
        go_roundw
        case rel => exact ⟨k + 1, of1, rfl, by go_num, by omega, hbe, HF.out, HR.out⟩
        case measure => simp [intOf]; omega
      · have HR := Lib.hid (HSTEP.out.trans (by rw [if_neg hc]))
        go_wp2_with fail
        go_roundw
        case rel => exact ⟨k + 1, of, rfl, by go_num, by omega, hbe, HF.out, HR.out⟩
        case measure => simp [intOf]; omega
    · have hki : ¬ (k : Int) < (sh.length : Int) := by omega
      have HR := Lib.hid (show Tt.offAt v sh t = of by rw [HK.out, List.drop_eq_nil_of_le (by omega)]; rfl)
      go_wp2_with fail
      go_ret
      exact ⟨ret_int HR.out.symm, hbe⟩

set_option maxHeartbeats 8000000 in
set_option maxRecDepth 100000 in
theorem instants76 (n : ByteArray) (v : Int) (sh : List (Int × Int)) (ao : Option Addr) (c : Nat) (B : Nat) (l : Int) (w : World) (hB : B ≤ w.heap.size) (hE : Shs B w ao sh) (hn : sh.length ≤ 4611686018427387903) :
    Calls Tryz.prog 76 #[.agg #[.string n, .int .i64 v, .slice ao sh.length c], .int .i64 l] w fun e w' => ∃ u, e = .returned u ∧ w'.ownsRow w.heap.size 3 1 u (Tt.instV (Tt.code n.data.toList) v sh l).length ((Tt.instV (Tt.code n.data.toList) v sh l).map (Value.int .i64)) ∧ Below w.heap.size w w' := by
  obtain ⟨i0, hi, hz0, hz1, hz2⟩ := info_parts infoInt
  have F0 : ZoneB w.heap.size n v (.slice ao sh.length c) (w.alloc (.cells #[.string n, .int .i64 v, .slice ao sh.length c] 50)) := heap_alloc_new w _
  have HF0 := Lib.hid F0
  have HV := Lib.hid (zone59 n v sh ao c B (w.alloc (.cells #[.string n, .int .i64 v, .slice ao sh.length c] 50)) (by simp; omega) (hE.below ((below_box w _).mono hB)) hn)
  have HE := Lib.hid hE
  clear hE F0
  by_cases hv : Tt.zoneV (Tt.code n.data.toList) v sh = 0
  · obtain ⟨-, hv1, hv2, hn64, -, hasc⟩ := Tt.zoneV_zero _ _ _ hv
    have HASC := Lib.hid hasc
    have HVV := Lib.hid hv
    have HD := Lib.hid (show Tt.instV (Tt.code n.data.toList) v sh l = Tt.instP 0 v sh l from if_neg (by simp [hv]))
    clear hv hasc
    by_cases hl : -840 ≤ l ∧ l < 52596840
    · obtain ⟨l1, l2⟩ := hl
      have l1' : ¬ l < -840 := by omega
      have l2' : ¬ 52596840 ≤ l := by omega
      have l3' : ¬ 52596840 - 1 < l := by omega
      go_enter Tryz.func76, Tryz.ntmps76
      obtain ⟨f0, f1, f2⟩ := HF0.out.c
      go_wp2_with fail
      refine HV.out.mono ?_
      rintro e w0 ⟨rfl, hb0⟩
      rw [HVV.out]
      have hbe0 := below_then (below_box w _) hb0
      have HF := Lib.hid (HF0.out.block (hb0.block _ HF0.out.lt))
      clear HV hb0 f0 f1 f2
      obtain ⟨f0, f1, f2⟩ := HF.out.c
      go_wp2_with fail
      clear f0 f1 f2
      generalize hgw : w0 = wz at hbe0 HF ⊢
      obtain ⟨f0, f1, f2⟩ := HF.out.c
      go_quiet (fail)
      obtain ⟨w1, hw1, hB1, hC1, hH1⟩ := redrew wz nq
      have hbe1 := hbe0.trans (hB1 _)
      have HF1 := Lib.hid (HF.out.block (hH1 _))
      rw [← hw1]
      clear hw1 hB1 hC1 hH1 f0 f1 f2 HF hbe0 hgw
      obtain ⟨f0, f1, f2⟩ := HF1.out.c
      go_wp2_with fail
      clear f0 f1 f2
      go_loopw [5, 6, 7, 8] (fun ov bv fv iv wr => ∃ (k : Nat) (acc : List Int) (lo of : Int), bv = .int .i64 lo ∧ fv = .int .i64 of ∧ iv = .int .i64 k ∧ k ≤ sh.length + 1 ∧ -840 ≤ of ∧ of ≤ 840 ∧ Below w.heap.size w wr ∧ Hid (ZoneB w.heap.size n v (.slice ao sh.length c) wr) ∧ wr.ownsRow (w.heap.size + 1) 3 1 ov acc.length (acc.map (Value.int .i64)) ∧ acc.length ≤ k ∧ Hid (k ≤ sh.length → Tt.instP 0 v sh l = acc ++ Tt.instP lo of (sh.drop k) l) ∧ Hid (sh.length < k → Tt.instP 0 v sh l = acc)) (fun _ _ _ iv _ => sh.length + 1 - (intOf iv).toNat)
      case atStart => exact ⟨0, [], 0, v, rfl, rfl, by go_num, by omega, hv1, hv2, hbe1, HF1.out, World.ownsRow_nil _ _ _ _, Nat.le_refl _, fun _ => rfl, fun h => by omega⟩
      case round =>
        clear hbe1 HF1
        obtain ⟨k, acc, lo, of, rfl, rfl, rfl, hk, o1, o2, hbe, HF, hown, hal, HK, HK2⟩ := hrel
        obtain ⟨f0, f1, f2⟩ := HF.out.c
        have hsz := HF.out.lt
        by_cases hlt : k < sh.length
        · obtain ⟨x, hx⟩ : ∃ x, sh[k]? = some x := ⟨_, List.getElem?_eq_getElem hlt⟩
          obtain ⟨b, o, ha, hb, hev⟩ := HE.out.form (by omega)
          subst ha
          obtain ⟨a0, a1⟩ := hev k x hx
          have c0 := (hbe.cell (p := ⟨b, o + k * 2, none⟩) (by simp; omega)).trans a0
          have hki : (k : Int) < (sh.length : Int) := by omega
          have hki2 : (k : Int) ≤ (sh.length : Int) := by omega
          have HA1 := Lib.hid a1
          have HSTEP := Lib.hid (show Tt.instP 0 v sh l = acc ++ ((if lo ≤ l - of ∧ l - of < x.1 then [l - of] else []) ++ Tt.instP x.1 x.2 (sh.drop (k + 1)) l) by
            obtain ⟨g1, g2⟩ := List.getElem?_eq_some_iff.1 hx
            rw [HK.out (by omega), List.drop_eq_getElem_cons g1, g2]; rfl)
          have HB := Lib.hid (Tt.asc_get sh 0 k x HASC.out hx)
          clear a0 a1 hev hx HK HK2
          obtain ⟨at1, of1⟩ := x
          simp only at c0 HA1 HSTEP HB
          by_cases hin : lo ≤ l - of ∧ l - of < at1
          · have HN1 := Lib.hid (show Tt.instP 0 v sh l = (acc ++ [l - of]) ++ Tt.instP at1 of1 (sh.drop (k + 1)) l by rw [HSTEP.out, if_pos hin, List.append_assoc])
            obtain ⟨q1, q2⟩ := hin
            go_wp2_with (at_builtin; refine wpList_append_own _ rfl (.tmp 53) (.tmp 55) 27 rfl (w.heap.size + 1) 3 i0 (.int .i64 0) 1 8 Tryz.underlying27 hi hz0 hz1 hz2 rfl (by decide) _ _ _ rfl (hown.alloc _) ⟨wr.heap.size, 0, none⟩ 1 1 [.int .i64 (l - of)] rfl rfl (cell_one _ _ _) (by intro u hu; simp at hu; subst hu; rfl) (by unfold maxLen; omega) (by omega) (by simp; omega) ?_)
            intro v' w3 hown3 hgrow _
            have hbl : Below (w.heap.size + 1) wr w3 := ((Below.refl _ wr).alloc (by omega) _).grown hgrow (by simp; omega) (fun k hk => (hown.lt k hk).1)
            have hbe3 : Below w.heap.size w w3 := hbe.trans (hbl.mono (by omega))
            have HF3 := Lib.hid (HF.out.block (hbl.block _ (by omega)))
            have c1 := (hbe3.cell (p := ⟨b, o + k * 2 + 1, none⟩) (by simp; omega)).trans HA1.out
            clear hgrow hown hbl hbe HF c0 f0 f1 f2
            obtain ⟨f0, f1, f2⟩ := HF3.out.c
            go_wp2_with fail
            go_quiet (fail)
            obtain ⟨w4, hw4, hB4, hC4, hH4⟩ := redrew w3 nq
            have hbe4 := hbe3.trans (hB4 _)
            have HF4 := Lib.hid (HF3.out.block (hH4 _))
            have hown4 := ownsRow_below hown3 (hB4 _)
            rw [← hw4]
            clear hw4 hB4 hC4 hH4 f0 f1 f2 c1 hown3 hbe3 HF3
            obtain ⟨f0, f1, f2⟩ := HF4.out.c
            go_wp2_with fail
            go_roundw
            case rel => exact ⟨k + 1, _, at1, of1, rfl, rfl, by go_num, by omega, HB.out.2.2.1, HB.out.2.2.2, hbe4, HF4.out, by simpa using hown4, by simp; omega, fun _ => HN1.out, fun h => by omega⟩
            case measure => simp [intOf]; omega
          · have HN1 := Lib.hid (show Tt.instP 0 v sh l = acc ++ Tt.instP at1 of1 (sh.drop (k + 1)) l by rw [HSTEP.out, if_neg hin]; rfl)
            have c1 := (hbe.cell (p := ⟨b, o + k * 2 + 1, none⟩) (by simp; omega)).trans HA1.out
            by_cases q1 : lo ≤ l - of
            · have q2 : ¬ l - of < at1 := by omega
              clear hin
              go_wp2_with fail
              go_quiet (fail)
              obtain ⟨w4, hw4, hB4, hC4, hH4⟩ := redrew wr nq
              have hbe4 := hbe.trans (hB4 _)
              have HF4 := Lib.hid (HF.out.block (hH4 _))
              have hown4 := ownsRow_below hown (hB4 _)
              rw [← hw4]
              clear hw4 hB4 hC4 hH4 f0 f1 f2 c0 c1 hown hbe HF
              obtain ⟨f0, f1, f2⟩ := HF4.out.c
              go_wp2_with fail
              go_roundw
              case rel => exact ⟨k + 1, _, at1, of1, rfl, rfl, by go_num, by omega, HB.out.2.2.1, HB.out.2.2.2, hbe4, HF4.out, hown4, by omega, fun _ => HN1.out, fun h => by omega⟩
              case measure => simp [intOf]; omega
            · clear hin
              go_wp2_with fail
              go_quiet (fail)
              obtain ⟨w4, hw4, hB4, hC4, hH4⟩ := redrew wr nq
              have hbe4 := hbe.trans (hB4 _)
              have HF4 := Lib.hid (HF.out.block (hH4 _))
              have hown4 := ownsRow_below hown (hB4 _)
              rw [← hw4]
              clear hw4 hB4 hC4 hH4 f0 f1 f2 c0 c1 hown hbe HF
              obtain ⟨f0, f1, f2⟩ := HF4.out.c
              go_wp2_with fail
              go_roundw
              case rel => exact ⟨k + 1, _, at1, of1, rfl, rfl, by go_num, by omega, HB.out.2.2.1, HB.out.2.2.2, hbe4, HF4.out, hown4, by omega, fun _ => HN1.out, fun h => by omega⟩
              case measure => simp [intOf]; omega
        · by_cases hlt2 : k = sh.length
          · subst hlt2
            have HSTEP := Lib.hid (show Tt.instP 0 v sh l = acc ++ (if lo ≤ l - of ∧ l - of < 52596000 then [l - of] else []) by
              rw [HK.out (Nat.le_refl _), List.drop_eq_nil_of_le (Nat.le_refl _)]; rfl)
            clear HK HK2 hlt
            by_cases hin : lo ≤ l - of ∧ l - of < 52596000
            · have HN1 := Lib.hid (show Tt.instP 0 v sh l = (acc ++ [l - of]) by rw [HSTEP.out, if_pos hin])
              obtain ⟨q1, q2⟩ := hin
              go_wp2_with (at_builtin; refine wpList_append_own _ rfl (.tmp 53) (.tmp 55) 27 rfl (w.heap.size + 1) 3 i0 (.int .i64 0) 1 8 Tryz.underlying27 hi hz0 hz1 hz2 rfl (by decide) _ _ _ rfl (hown.alloc _) ⟨wr.heap.size, 0, none⟩ 1 1 [.int .i64 (l - of)] rfl rfl (cell_one _ _ _) (by intro u hu; simp at hu; subst hu; rfl) (by unfold maxLen; omega) (by omega) (by simp; omega) ?_)
              intro v' w3 hown3 hgrow _
              have hbl : Below (w.heap.size + 1) wr w3 := ((Below.refl _ wr).alloc (by omega) _).grown hgrow (by simp; omega) (fun k hk => (hown.lt k hk).1)
              have hbe3 : Below w.heap.size w w3 := hbe.trans (hbl.mono (by omega))
              have HF3 := Lib.hid (HF.out.block (hbl.block _ (by omega)))
              clear hgrow hown hbl hbe HF f0 f1 f2
              obtain ⟨f0, f1, f2⟩ := HF3.out.c
              go_wp2_with fail
              go_roundw
              case rel => exact ⟨sh.length + 1, _, lo, of, rfl, rfl, by go_num, by omega, o1, o2, hbe3, HF3.out, by simpa using hown3, by simp; omega, fun h => by omega, fun _ => HN1.out⟩
              case measure => simp [intOf]
            · have HN1 := Lib.hid (show Tt.instP 0 v sh l = acc by rw [HSTEP.out, if_neg hin, List.append_nil])
              go_wp2_with fail
              all_goals first
                | (go_roundw
                   case rel => exact ⟨sh.length + 1, _, lo, of, rfl, rfl, by go_num, by omega, o1, o2, hbe, HF.out, hown, by omega, fun h => by omega, fun _ => HN1.out⟩
                   case measure => simp [intOf])
                | (exfalso; omega)
          · have hki : ¬ (k : Int) ≤ (sh.length : Int) := by omega
            have HR := Lib.hid (HD.out.trans (HK2.out (by omega)))
            go_wp2_with fail
            go_ret
            exact ⟨_, rfl, by rw [HR.out]; exact ownsRow_mono hown (by omega), hbe⟩
    · have HR := Lib.hid (show Tt.instV (Tt.code n.data.toList) v sh l = [] from HD.out.trans (Tt.inst_far v sh l HASC.out hv1 hv2 (by omega)))
      go_enter Tryz.func76, Tryz.ntmps76
      obtain ⟨f0, f1, f2⟩ := HF0.out.c
      go_wp2_with fail
      refine HV.out.mono ?_
      rintro e w0 ⟨rfl, hb0⟩
      rw [HVV.out]
      have hbe0 := below_then (below_box w _) hb0
      clear HV hb0 f0 f1 f2 HF0
      go_wp2_with fail
      all_goals first
        | (go_ret; exact ⟨_, rfl, by rw [HR.out]; exact World.ownsRow_nil _ _ _ _, hbe0⟩)
        | (exfalso; omega)
  · have HR := Lib.hid (show Tt.instV (Tt.code n.data.toList) v sh l = [] from if_pos hv)
    have HVV := Lib.hid (show (Tt.zoneV (Tt.code n.data.toList) v sh != 0) = true by simp [hv])
    clear hv
    go_enter Tryz.func76, Tryz.ntmps76
    obtain ⟨f0, f1, f2⟩ := HF0.out.c
    go_wp2_with fail
    refine HV.out.mono ?_
    rintro e w0 ⟨rfl, hb0⟩
    have hbe0 := below_then (below_box w _) hb0
    clear HV hb0 f0 f1 f2 HF0
    have hvv := HVV.out
    go_wp2_with fail
    go_ret
    exact ⟨_, rfl, by rw [HR.out]; exact World.ownsRow_nil _ _ _ _, hbe0⟩

end Go.Proofs.YtageielcdebjlaaGreatDoor

-- ZoneI2
namespace Go.Proofs.YtageielcdebjlaaGreatDoor
open Go.RowKit

set_option maxHeartbeats 8000000 in
set_option maxRecDepth 100000 in
theorem instants189 (n : ByteArray) (v : Int) (sh : List (Int × Int)) (ao : Option Addr) (c : Nat) (B : Nat) (l : Int) (w : World) (hB : B ≤ w.heap.size) (hE : Shs B w ao sh) (hn : sh.length ≤ 4611686018427387903) :
    Calls Tryz.prog 189 #[.agg #[.string n, .int .i64 v, .slice ao sh.length c], .int .i64 l] w fun e w' => ∃ u, e = .returned u ∧ w'.ownsRow w.heap.size 3 1 u (Tt.instV (Tt.code n.data.toList) v sh l).length ((Tt.instV (Tt.code n.data.toList) v sh l).map (Value.int .i64)) ∧ Below w.heap.size w w' := by
  obtain ⟨i0, hi, hz0, hz1, hz2⟩ := info_parts infoInt
  have F0 : ZoneB w.heap.size n v (.slice ao sh.length c) (w.alloc (.cells #[.string n, .int .i64 v, .slice ao sh.length c] 50)) := heap_alloc_new w _
  have HF0 := Lib.hid F0
  have HV := Lib.hid (zone58 n v sh ao c B (w.alloc (.cells #[.string n, .int .i64 v, .slice ao sh.length c] 50)) (by simp; omega) (hE.below ((below_box w _).mono hB)) hn)
  have HE := Lib.hid hE
  clear hE F0
  by_cases hv : Tt.zoneV (Tt.code n.data.toList) v sh = 0
  · obtain ⟨-, hv1, hv2, hn64, -, hasc⟩ := Tt.zoneV_zero _ _ _ hv
    have HASC := Lib.hid hasc
    have HVV := Lib.hid hv
    have HD := Lib.hid (show Tt.instV (Tt.code n.data.toList) v sh l = Tt.instP 0 v sh l from if_neg (by simp [hv]))
    clear hv hasc
    by_cases hl : -1680 ≤ l ∧ l < 52597681
    · obtain ⟨l1, l2⟩ := hl
      have l1' : ¬ l < -1680 := by omega
      have l2' : ¬ 52597681 ≤ l := by omega
      have l3' : ¬ 52597681 - 1 < l := by omega
      go_enter Tryz.func189, Tryz.ntmps189
      obtain ⟨f0, f1, f2⟩ := HF0.out.c
      go_wp2_with fail
      refine HV.out.mono ?_
      rintro e w0 ⟨rfl, hb0⟩
      rw [HVV.out]
      have hbe0 := below_then (below_box w _) hb0
      have HF := Lib.hid (HF0.out.block (hb0.block _ HF0.out.lt))
      clear HV hb0 f0 f1 f2
      obtain ⟨f0, f1, f2⟩ := HF.out.c
      have HDR := Lib.hid (HD.out.trans (Tt.inst_eq v sh l HASC.out hv1 hv2).symm)
      go_wp2_with fail
      clear f0 f1 f2
      go_loopw [5, 6] (fun ov iv wr => ∃ (k : Nat) (acc : List Int), iv = .int .i64 (840 - k) ∧ k ≤ 1681 ∧ Below w.heap.size w wr ∧ Hid (ZoneB w.heap.size n v (.slice ao sh.length c) wr) ∧ wr.ownsRow (w.heap.size + 1) 3 1 ov acc.length (acc.map (Value.int .i64)) ∧ acc.length ≤ k ∧ Hid (Tt.instR v sh l k = acc)) (fun _ iv _ => (841 + intOf iv).toNat)
      case atStart => exact ⟨0, [], by go_num, by omega, hbe0, HF.out, World.ownsRow_nil _ _ _ _, Nat.le_refl _, rfl⟩
      case round =>
        clear hbe0 HF
        obtain ⟨k, acc, rfl, hk, hbe, HF, hown, hal, HK⟩ := hrel
        obtain ⟨f0, f1, f2⟩ := HF.out.c
        have hsz := HF.out.lt
        by_cases hlt : k < 1681
        · have HSTEP := Lib.hid (show Tt.instR v sh l (k + 1) = acc ++ (if (Tt.instB (l - (840 - k)) && decide (Tt.offAt v sh (l - (840 - k)) = 840 - k)) = true then [l - (840 - k)] else []) by
            rw [← HK.out, Tt.instR_succ])
          have k1 : -840 ≤ 840 - (k : Int) := by omega
          cases hib : Tt.instB (l - (840 - k))
          · have HN1 := Lib.hid (show Tt.instR v sh l (k + 1) = acc by rw [HSTEP.out, hib]; simp)
            have HI := Lib.hid hib
            clear hib
            go_wp2_with (go_at_call 190; refine (inst190 _ _).mono ?_; rintro e w' ⟨rfl, hw⟩; rw [hw, HI.out]; clear hw w')
            go_roundw
            case rel => exact ⟨k + 1, _, by go_num, by omega, hbe, HF.out, hown, by omega, HN1.out⟩
            case measure => simp [intOf]; omega
          · have HI := Lib.hid hib
            by_cases ho : Tt.offAt v sh (l - (840 - k)) = 840 - k
            · have HN1 := Lib.hid (show Tt.instR v sh l (k + 1) = acc ++ [l - (840 - k)] by rw [HSTEP.out, hib, ho]; simp)
              have HO := Lib.hid ho
              clear hib ho
              go_wp2_with (go_at_call 190; refine (inst190 _ _).mono ?_; rintro e w' ⟨rfl, hw⟩; rw [hw, HI.out]; clear hw w')
              refine (offset265 n v sh ao c B (l - (840 - k)) wr (by have := hbe.size; omega) (HE.out.below (hbe.mono hB)) hn).mono ?_
              rintro e w2 ⟨rfl, hb2⟩
              rw [HO.out]
              have hbe2 := below_then hbe hb2
              have HF2 := Lib.hid (HF.out.block (hb2.block _ hsz))
              have hown2 := ownsRow_below hown hb2
              have hsz2 := HF2.out.lt
              clear hb2 f0 f1 f2 HF hbe hown hsz
              obtain ⟨f0, f1, f2⟩ := HF2.out.c
              go_wp2_with (at_builtin; refine wpList_append_own _ rfl (.tmp 35) (.tmp 39) 27 rfl (w.heap.size + 1) 3 i0 (.int .i64 0) 1 8 Tryz.underlying27 hi hz0 hz1 hz2 rfl (by decide) _ _ _ rfl (hown2.alloc _) ⟨w2.heap.size, 0, none⟩ 1 1 [.int .i64 (l - (840 - k))] rfl rfl (cell_one _ _ _) (by intro u hu; simp at hu; subst hu; rfl) (by unfold maxLen; omega) (by omega) (by simp; omega) ?_)
              intro v' w3 hown3 hgrow _
              have hbl : Below (w.heap.size + 1) w2 w3 := ((Below.refl _ w2).alloc (by omega) _).grown hgrow (by simp; omega) (fun k hk => (hown2.lt k hk).1)
              have hbe3 : Below w.heap.size w w3 := hbe2.trans (hbl.mono (by omega))
              have HF3 := Lib.hid (HF2.out.block (hbl.block _ (by omega)))
              clear hgrow hown2 hbl hbe2 HF2 f0 f1 f2
              obtain ⟨f0, f1, f2⟩ := HF3.out.c
              go_wp2_with fail
              go_roundw
              case rel => exact ⟨k + 1, _, by go_num, by omega, hbe3, HF3.out, by simpa using hown3, by simp; omega, HN1.out⟩
              case measure => simp [intOf]; omega
            · have HN1 := Lib.hid (show Tt.instR v sh l (k + 1) = acc by rw [HSTEP.out, hib, decide_eq_false ho]; simp)
              have HO := Lib.hid (show (Tt.offAt v sh (l - (840 - k)) == 840 - (k : Int)) = false by simp [ho])
              clear hib ho
              go_wp2_with (go_at_call 190; refine (inst190 _ _).mono ?_; rintro e w' ⟨rfl, hw⟩; rw [hw, HI.out]; clear hw w')
              refine (offset265 n v sh ao c B (l - (840 - k)) wr (by have := hbe.size; omega) (HE.out.below (hbe.mono hB)) hn).mono ?_
              rintro e w2 ⟨rfl, hb2⟩
              have hbe2 := below_then hbe hb2
              have HF2 := Lib.hid (HF.out.block (hb2.block _ hsz))
              have hown2 := ownsRow_below hown hb2
              clear hb2 f0 f1 f2 HF hbe hown hsz
              obtain ⟨f0, f1, f2⟩ := HF2.out.c
              have ho := HO.out
              go_wp2_with fail
              go_roundw
              case rel => exact ⟨k + 1, _, by go_num, by omega, hbe2, HF2.out, hown2, by omega, HN1.out⟩
              case measure => simp [intOf]; omega
        · obtain rfl : k = 1681 := by omega
          have HR := Lib.hid (HDR.out.trans HK.out)
          go_wp2_with fail
          go_ret
          exact ⟨_, rfl, by rw [HR.out]; exact ownsRow_mono hown (by omega), hbe⟩
    · have HR := Lib.hid (show Tt.instV (Tt.code n.data.toList) v sh l = [] from HD.out.trans (Tt.inst_far v sh l HASC.out hv1 hv2 (by omega)))
      go_enter Tryz.func189, Tryz.ntmps189
      obtain ⟨f0, f1, f2⟩ := HF0.out.c
      go_wp2_with fail
      refine HV.out.mono ?_
      rintro e w0 ⟨rfl, hb0⟩
      rw [HVV.out]
      have hbe0 := below_then (below_box w _) hb0
      clear HV hb0 f0 f1 f2 HF0
      go_wp2_with fail
      all_goals first
        | (go_ret; exact ⟨_, rfl, by rw [HR.out]; exact World.ownsRow_nil _ _ _ _, hbe0⟩)
        | (exfalso; omega)
  · have HR := Lib.hid (show Tt.instV (Tt.code n.data.toList) v sh l = [] from if_pos hv)
    have HVV := Lib.hid (show (Tt.zoneV (Tt.code n.data.toList) v sh != 0) = true by simp [hv])
    clear hv
    go_enter Tryz.func189, Tryz.ntmps189
    obtain ⟨f0, f1, f2⟩ := HF0.out.c
    go_wp2_with fail
    refine HV.out.mono ?_
    rintro e w0 ⟨rfl, hb0⟩
    have hbe0 := below_then (below_box w _) hb0
    clear HV hb0 f0 f1 f2 HF0
    have hvv := HVV.out
    go_wp2_with fail
    go_ret
    exact ⟨_, rfl, by rw [HR.out]; exact World.ownsRow_nil _ _ _ _, hbe0⟩

end Go.Proofs.YtageielcdebjlaaGreatDoor

-- ZoneR
namespace Go.Proofs.YtageielcdebjlaaGreatDoor
open Go.RowKit

theorem ret_ints {a a' b b' : Int} (h : a = a') (h2 : b = b') : Ending.returned (.tuple #[.int .i64 a, .int .i64 b]) = .returned (.tuple #[.int .i64 a', .int .i64 b']) := by rw [h, h2]
theorem row_ints {B : Nat} {w : World} {v : Value} {xs : List Int} (h : w.ownsRow B 3 1 v xs.length (xs.map (Value.int .i64))) :
    ∃ ao c, v = .slice ao xs.length c ∧ Ints w.heap.size w ao xs := by
  rcases h.2 with ⟨hv, h0⟩ | ⟨g, cap, cur, hv, r2, r3, r4, r5, _⟩
  · refine ⟨none, 0, by rw [hv, h0], fun j x hj => ?_⟩
    rw [List.eq_nil_of_length_eq_zero h0] at hj; simp at hj
  · refine ⟨_, cap, hv, fun j x hj => ⟨_, rfl, (Array.getElem?_eq_some_iff.1 r3).1, ?_⟩⟩
    subst hv
    exact h.cells (g := g) rfl j _ (by simp [hj])

set_option maxHeartbeats 8000000 in
set_option maxRecDepth 100000 in
theorem resolve117 (n : ByteArray) (v : Int) (sh : List (Int × Int)) (ao : Option Addr) (c : Nat) (B : Nat) (l : Int) (w : World) (hB : B ≤ w.heap.size) (hE : Shs B w ao sh) (hn : sh.length ≤ 4611686018427387903) (hl1 : -1000000000 ≤ l) (hl2 : l ≤ 1000000000) :
    Calls Tryz.prog 117 #[.agg #[.string n, .int .i64 v, .slice ao sh.length c], .int .i64 l] w fun e w' => e = .returned (.tuple #[.int .i64 (Tt.resV (Tt.code n.data.toList) v sh l).1, .int .i64 (Tt.resV (Tt.code n.data.toList) v sh l).2]) ∧ Below w.heap.size w w' := by
  have F0 : ZoneB w.heap.size n v (.slice ao sh.length c) (w.alloc (.cells #[.string n, .int .i64 v, .slice ao sh.length c] 50)) := heap_alloc_new w _
  have HF0 := Lib.hid F0
  have HV := Lib.hid (zone59 n v sh ao c B (w.alloc (.cells #[.string n, .int .i64 v, .slice ao sh.length c] 50)) (by simp; omega) (hE.below ((below_box w _).mono hB)) hn)
  have HE := Lib.hid hE
  clear hE F0
  by_cases hv : Tt.zoneV (Tt.code n.data.toList) v sh = 0
  · obtain ⟨-, hv1, hv2, hn64, -, hasc⟩ := Tt.zoneV_zero _ _ _ hv
    have HASC := Lib.hid hasc
    have HVV := Lib.hid hv
    have HD := Lib.hid (show Tt.instV (Tt.code n.data.toList) v sh l = Tt.instP 0 v sh l from if_neg (by simp [hv]))
    clear hv hasc
    go_enter Tryz.func117, Tryz.ntmps117
    obtain ⟨f0, f1, f2⟩ := HF0.out.c
    go_wp2_with fail
    refine HV.out.mono ?_
    rintro e w0 ⟨rfl, hb0⟩
    rw [HVV.out]
    have hbe0 := below_then (below_box w _) hb0
    have HF := Lib.hid (HF0.out.block (hb0.block _ HF0.out.lt))
    clear HV hb0 f0 f1 f2
    obtain ⟨f0, f1, f2⟩ := HF.out.c
    go_wp2_with fail
    refine (instants76 n v sh ao c B l w0 (by have := hbe0.size; omega) (HE.out.below (hbe0.mono hB)) hn).mono ?_
    rintro e w1 ⟨u, rfl, hown, hb1⟩
    have hbe1 := below_then hbe0 hb1
    have HF1 := Lib.hid (HF.out.block (hb1.block _ HF.out.lt))
    rw [HD.out] at hown
    clear hb1 hbe0 HF f0 f1 f2
    obtain ⟨ao1, c1, rfl, hI1⟩ := row_ints hown
    clear hown
    obtain ⟨L, hL⟩ : ∃ L, L = Tt.instP 0 v sh l := ⟨_, rfl⟩
    rw [← hL] at hI1 ⊢
    cases hh : L with
    | cons t r =>
      have HR := Lib.hid (Tt.resV_hit (Tt.code n.data.toList) v sh l t r HVV.out (hL.symm.trans hh))
      have hlen : (0 : Int) < (L.length : Int) := by rw [hh]; simp
      obtain ⟨b, o, ha, hb, hc⟩ := hI1.form (by omega)
      have hc0 := hc 0 t (by rw [hh]; rfl)
      simp only [Nat.add_zero] at hc0
      subst ha
      rw [← hh]
      clear hh hL hc hI1
      go_wp2_with fail
      go_ret2
      exact ⟨ret_ints (by rw [HR.out]) (by rw [HR.out]), hbe1⟩
    | nil =>
      have HR := Lib.hid (Tt.resV_gap (Tt.code n.data.toList) v sh l HVV.out (hL.symm.trans hh))
      clear hh hL hI1
      obtain ⟨f0, f1, f2⟩ := HF1.out.c
      go_wp2_with fail
      clear f0 f1 f2
      go_loopw [8, 30] (fun fv iv wr => ∃ (k : Nat) (of : Int), fv = .int .i64 of ∧ iv = .int .i64 k ∧ k ≤ sh.length ∧ -840 ≤ of ∧ of ≤ 840 ∧ Below w.heap.size w wr ∧ Hid (ZoneB w.heap.size n v (.slice ao sh.length c) wr) ∧ Hid (Tt.gapP v sh l = Tt.gapP of (sh.drop k) l)) (fun _ iv _ => sh.length - (intOf iv).toNat)
      case atStart => exact ⟨0, v, rfl, rfl, by omega, hv1, hv2, hbe1, HF1.out, rfl⟩
      case round =>
        clear hbe1 HF1
        obtain ⟨k, of, rfl, rfl, hk, o1, o2, hbe, HF, HK⟩ := hrel
        obtain ⟨f0, f1, f2⟩ := HF.out.c
        have hsz := HF.out.lt
        by_cases hlt : k < sh.length
        · obtain ⟨x, hx⟩ : ∃ x, sh[k]? = some x := ⟨_, List.getElem?_eq_getElem hlt⟩
          obtain ⟨b, o, ha, hb, hev⟩ := HE.out.form (by omega)
          subst ha
          obtain ⟨a0, a1⟩ := hev k x hx
          have c0 := (hbe.cell (p := ⟨b, o + k * 2, none⟩) (by simp; omega)).trans a0
          have c1 := (hbe.cell (p := ⟨b, o + k * 2 + 1, none⟩) (by simp; omega)).trans a1
          have hki : (k : Int) < (sh.length : Int) := by omega
          have HSTEP := Lib.hid (Tt.gapP_at v sh l of k x hx HK.out)
          have HB := Lib.hid (Tt.asc_get sh 0 k x HASC.out hx)
          clear a0 a1 hev hx HK
          obtain ⟨at1, of1⟩ := x
          simp only at c0 c1 HSTEP HB
          obtain ⟨b1, b2, b3, b4⟩ := HB.out
          have hbe2 := hbe.trans ((below_box wr (.cells #[.int .i64 at1, .int .i64 of1] 137)).mono hbe.size)
          have HF2 := Lib.hid (HF.out.block ((below_box wr (.cells #[.int .i64 at1, .int .i64 of1] 137)).block _ hsz))
          by_cases hin : at1 + of ≤ l ∧ l < at1 + of1
          · obtain ⟨q1, q2⟩ := hin
            cases hib : Tt.instB (l - of)
            · have HN := Lib.hid (HR.out.trans (HSTEP.out.trans ((if_pos ⟨q1, q2⟩).trans (if_neg (by rw [hib]; simp)))))
              have HI := Lib.hid hib
              clear hib
              go_wp2_with (go_at_call 122; refine (inst122 _ _).mono ?_; rintro e w' ⟨rfl, hw⟩; rw [hw, HI.out]; clear hw w')
              go_ret2
              exact ⟨ret_ints (by rw [HN.out]) (by rw [HN.out]), hbe2⟩
            · have HN := Lib.hid (HR.out.trans ((HSTEP.out.trans ((if_pos ⟨q1, q2⟩).trans (if_pos hib)))))
              have HI := Lib.hid hib
              clear hib
              go_wp2_with (go_at_call 122; refine (inst122 _ _).mono ?_; rintro e w' ⟨rfl, hw⟩; rw [hw, HI.out]; clear hw w')
              go_ret2
              exact ⟨ret_ints (by rw [HN.out]) (by rw [HN.out]), hbe2⟩
          · have HN := Lib.hid (HSTEP.out.trans (if_neg hin))
            by_cases q1 : at1 + of ≤ l
            · have q2 : ¬ l < at1 + of1 := by omega
              clear hin
              go_wp2_with fail
              go_roundw
              case rel => exact ⟨k + 1, of1, rfl, by go_num, by omega, b3, b4, hbe2, HF2.out, HN.out⟩
              case measure => simp [intOf]; omega
            · clear hin
              go_wp2_with fail
              go_roundw
              case rel => exact ⟨k + 1, of1, rfl, by go_num, by omega, b3, b4, hbe2, HF2.out, HN.out⟩
              case measure => simp [intOf]; omega
        · have hki : ¬ (k : Int) < (sh.length : Int) := by omega
          have HN := Lib.hid (HR.out.trans ((show Tt.gapP v sh l = (0, 3) by rw [HK.out, List.drop_eq_nil_of_le (by omega)]; rfl)))
          go_wp2_with fail
          go_ret2
          exact ⟨ret_ints (by rw [HN.out]) (by rw [HN.out]), hbe⟩
  · have HR := Lib.hid (Tt.resV_bad (Tt.code n.data.toList) v sh l hv)
    have HVV := Lib.hid (show (Tt.zoneV (Tt.code n.data.toList) v sh != 0) = true by simp [hv])
    clear hv
    go_enter Tryz.func117, Tryz.ntmps117
    obtain ⟨f0, f1, f2⟩ := HF0.out.c
    go_wp2_with fail
    refine HV.out.mono ?_
    rintro e w0 ⟨rfl, hb0⟩
    have hbe0 := below_then (below_box w _) hb0
    clear HV hb0 f0 f1 f2 HF0
    have hvv := HVV.out
    go_wp2_with fail
    go_ret2
    exact ⟨ret_ints (by rw [HR.out]) (by rw [HR.out]), hbe0⟩

set_option maxHeartbeats 8000000 in
set_option maxRecDepth 100000 in
theorem resolve120 (n : ByteArray) (v : Int) (sh : List (Int × Int)) (ao : Option Addr) (c : Nat) (B : Nat) (l : Int) (w : World) (hB : B ≤ w.heap.size) (hE : Shs B w ao sh) (hn : sh.length ≤ 4611686018427387903) (hl1 : -1000000000 ≤ l) (hl2 : l ≤ 1000000000) :
    Calls Tryz.prog 120 #[.agg #[.string n, .int .i64 v, .slice ao sh.length c], .int .i64 l] w fun e w' => e = .returned (.tuple #[.int .i64 (Tt.resV (Tt.code n.data.toList) v sh l).1, .int .i64 (Tt.resV (Tt.code n.data.toList) v sh l).2]) ∧ Below w.heap.size w w' := by
  have F0 : ZoneB w.heap.size n v (.slice ao sh.length c) (w.alloc (.cells #[.string n, .int .i64 v, .slice ao sh.length c] 50)) := heap_alloc_new w _
  have HF0 := Lib.hid F0
  have HV := Lib.hid (zone58 n v sh ao c B (w.alloc (.cells #[.string n, .int .i64 v, .slice ao sh.length c] 50)) (by simp; omega) (hE.below ((below_box w _).mono hB)) hn)
  have HE := Lib.hid hE
  clear hE F0
  by_cases hv : Tt.zoneV (Tt.code n.data.toList) v sh = 0
  · obtain ⟨-, hv1, hv2, hn64, -, hasc⟩ := Tt.zoneV_zero _ _ _ hv
    have HASC := Lib.hid hasc
    have HVV := Lib.hid hv
    have HD := Lib.hid (show Tt.instV (Tt.code n.data.toList) v sh l = Tt.instP 0 v sh l from if_neg (by simp [hv]))
    clear hv hasc
    go_enter Tryz.func120, Tryz.ntmps120
    obtain ⟨f0, f1, f2⟩ := HF0.out.c
    go_wp2_with fail
    refine HV.out.mono ?_
    rintro e w0 ⟨rfl, hb0⟩
    rw [HVV.out]
    have hbe0 := below_then (below_box w _) hb0
    have HF := Lib.hid (HF0.out.block (hb0.block _ HF0.out.lt))
    clear HV hb0 f0 f1 f2
    obtain ⟨f0, f1, f2⟩ := HF.out.c
    go_wp2_with fail
    refine (instants189 n v sh ao c B l w0 (by have := hbe0.size; omega) (HE.out.below (hbe0.mono hB)) hn).mono ?_
    rintro e w1 ⟨u, rfl, hown, hb1⟩
    have hbe1 := below_then hbe0 hb1
    have HF1 := Lib.hid (HF.out.block (hb1.block _ HF.out.lt))
    rw [HD.out] at hown
    clear hb1 hbe0 HF f0 f1 f2
    obtain ⟨ao1, c1, rfl, hI1⟩ := row_ints hown
    clear hown
    obtain ⟨L, hL⟩ : ∃ L, L = Tt.instP 0 v sh l := ⟨_, rfl⟩
    rw [← hL] at hI1 ⊢
    cases hh : L with
    | cons t r =>
      have HR := Lib.hid (Tt.resV_hit (Tt.code n.data.toList) v sh l t r HVV.out (hL.symm.trans hh))
      have hlen : (0 : Int) < (L.length : Int) := by rw [hh]; simp
      obtain ⟨b, o, ha, hb, hc⟩ := hI1.form (by omega)
      have hc0 := hc 0 t (by rw [hh]; rfl)
      simp only [Nat.add_zero] at hc0
      subst ha
      rw [← hh]
      clear hh hL hc hI1
      go_wp2_with fail
      go_ret2
      exact ⟨ret_ints (by rw [HR.out]) (by rw [HR.out]), hbe1⟩
    | nil =>
      have HR := Lib.hid (Tt.resV_gap (Tt.code n.data.toList) v sh l HVV.out (hL.symm.trans hh))
      clear hh hL hI1
      obtain ⟨f0, f1, f2⟩ := HF1.out.c
      have HRG := Lib.hid (Tt.gap_eq sh 0 v l HASC.out hv1)
      go_wp2_with fail
      clear f0 f1 f2
      go_loopw [8, 9] (fun fv iv wr => ∃ (k : Nat) (of : Int), fv = .int .i64 of ∧ iv = .int .i64 k ∧ k ≤ sh.length ∧ -840 ≤ of ∧ of ≤ 840 ∧ Below w.heap.size w wr ∧ Hid (ZoneB w.heap.size n v (.slice ao sh.length c) wr) ∧ Hid (Tt.gapR v sh l = Tt.gapR of (sh.drop k) l)) (fun _ iv _ => sh.length - (intOf iv).toNat)
      case atStart => exact ⟨0, v, rfl, rfl, by omega, hv1, hv2, hbe1, HF1.out, rfl⟩
      case round =>
        clear hbe1 HF1
        obtain ⟨k, of, rfl, rfl, hk, o1, o2, hbe, HF, HK⟩ := hrel
        obtain ⟨f0, f1, f2⟩ := HF.out.c
        have hsz := HF.out.lt
        by_cases hlt : k < sh.length
        · obtain ⟨x, hx⟩ : ∃ x, sh[k]? = some x := ⟨_, List.getElem?_eq_getElem hlt⟩
          obtain ⟨b, o, ha, hb, hev⟩ := HE.out.form (by omega)
          subst ha
          obtain ⟨a0, a1⟩ := hev k x hx
          have c0 := (hbe.cell (p := ⟨b, o + k * 2, none⟩) (by simp; omega)).trans a0
          have c1 := (hbe.cell (p := ⟨b, o + k * 2 + 1, none⟩) (by simp; omega)).trans a1
          have hki : (k : Int) < (sh.length : Int) := by omega
          have HSTEP := Lib.hid (Tt.gapR_at v sh l of k x hx HK.out)
          have HB := Lib.hid (Tt.asc_get sh 0 k x HASC.out hx)
          clear a0 a1 hev hx HK
          obtain ⟨at1, of1⟩ := x
          simp only at c0 c1 HSTEP HB
          obtain ⟨b1, b2, b3, b4⟩ := HB.out
          have hbe2 := hbe.trans ((below_box wr (.cells #[.int .i64 at1, .int .i64 of1] 137)).mono hbe.size)
          have HF2 := Lib.hid (HF.out.block ((below_box wr (.cells #[.int .i64 at1, .int .i64 of1] 137)).block _ hsz))
          by_cases hin : at1 + of ≤ l ∧ l < at1 + of1
          · obtain ⟨q1, q2⟩ := hin
            cases hib : Tt.instB (l - of)
            · have HN := Lib.hid (HSTEP.out.trans (if_neg (by rw [hib]; simp)))
              have HI := Lib.hid hib
              clear hib
              go_wp2_with (go_at_call 190; refine (inst190 _ _).mono ?_; rintro e w' ⟨rfl, hw⟩; rw [hw, HI.out]; clear hw w')
              go_roundw
              case rel => exact ⟨k + 1, of1, rfl, by go_num, by omega, b3, b4, hbe2, HF2.out, HN.out⟩
              case measure => simp [intOf]; omega
            · have HN := Lib.hid (HR.out.trans (HRG.out.trans (HSTEP.out.trans (if_pos ⟨⟨q1, q2⟩, hib⟩))))
              have HI := Lib.hid hib
              clear hib
              go_wp2_with (go_at_call 190; refine (inst190 _ _).mono ?_; rintro e w' ⟨rfl, hw⟩; rw [hw, HI.out]; clear hw w')
              go_ret2
              exact ⟨ret_ints (by rw [HN.out]) (by rw [HN.out]), hbe2⟩
          · have HN := Lib.hid (HSTEP.out.trans (if_neg (fun h => hin h.1)))
            by_cases q1 : at1 + of ≤ l
            · have q2 : ¬ l < at1 + of1 := by omega
              clear hin
              go_wp2_with fail
              go_roundw
              case rel => exact ⟨k + 1, of1, rfl, by go_num, by omega, b3, b4, hbe2, HF2.out, HN.out⟩
              case measure => simp [intOf]; omega
            · clear hin
              go_wp2_with fail
              go_roundw
              case rel => exact ⟨k + 1, of1, rfl, by go_num, by omega, b3, b4, hbe2, HF2.out, HN.out⟩
              case measure => simp [intOf]; omega
        · have hki : ¬ (k : Int) < (sh.length : Int) := by omega
          have HN := Lib.hid (HR.out.trans (HRG.out.trans (show Tt.gapR v sh l = (0, 3) by rw [HK.out, List.drop_eq_nil_of_le (by omega)]; rfl)))
          go_wp2_with fail
          go_ret2
          exact ⟨ret_ints (by rw [HN.out]) (by rw [HN.out]), hbe⟩
  · have HR := Lib.hid (Tt.resV_bad (Tt.code n.data.toList) v sh l hv)
    have HVV := Lib.hid (show (Tt.zoneV (Tt.code n.data.toList) v sh != 0) = true by simp [hv])
    clear hv
    go_enter Tryz.func120, Tryz.ntmps120
    obtain ⟨f0, f1, f2⟩ := HF0.out.c
    go_wp2_with fail
    refine HV.out.mono ?_
    rintro e w0 ⟨rfl, hb0⟩
    have hbe0 := below_then (below_box w _) hb0
    clear HV hb0 f0 f1 f2 HF0
    have hvv := HVV.out
    go_wp2_with fail
    go_ret2
    exact ⟨ret_ints (by rw [HR.out]) (by rw [HR.out]), hbe0⟩

end Go.Proofs.YtageielcdebjlaaGreatDoor

-- Start
namespace Go.Proofs.YtageielcdebjlaaGreatDoor

/-- The instants behind some, day by day, and the error. -/
def goS (f : Int → Int × Int) : List Int → List Int → List Int × Int
  | acc, [] => (acc, 0)
  | acc, d :: r => if (f d).2 ≠ 0 then ([], (f d).2) else goS f (acc ++ [(f d).1]) r
/-- What a day's start means in a zone. -/
def dayT (code : Bool) (v : Int) (sh : List (Int × Int)) (start d : Int) : Int × Int := Tt.resV code v sh (1440 * d + start)
/-- The instants at which an event starts, and the error. -/
def startsV (code : Bool) (v : Int) (sh : List (Int × Int)) (e : Ev) : List Int × Int :=
  if Tt.zoneV code v sh ≠ 0 then ([], Tt.zoneV code v sh)
  else if rightB e.uid.data.toList = false ∨ checkV e 64 ≠ 0 then ([], 1)
  else goS (dayT code v sh e.start) [] (Tt.serDays e.days)

theorem startsV_zone (code : Bool) (v : Int) (sh : List (Int × Int)) (e : Ev) (h : Tt.zoneV code v sh ≠ 0) : startsV code v sh e = ([], Tt.zoneV code v sh) := if_pos h
theorem startsV_event (code : Bool) (v : Int) (sh : List (Int × Int)) (e : Ev) (h : Tt.zoneV code v sh = 0) (h2 : rightB e.uid.data.toList = false ∨ checkV e 64 ≠ 0) : startsV code v sh e = ([], 1) := (if_neg (by simp [h])).trans (if_pos h2)
theorem startsV_days (code : Bool) (v : Int) (sh : List (Int × Int)) (e : Ev) (h : Tt.zoneV code v sh = 0) (h2 : rightB e.uid.data.toList = true) (h3 : checkV e 64 = 0) :
    startsV code v sh e = goS (dayT code v sh e.start) [] (Tt.serDays e.days) := (if_neg (by simp [h])).trans (if_neg (by simp [h2, h3]))
theorem goS_bad (f : Int → Int × Int) (acc ds : List Int) (k : Nat) (d : Int) (r : List Int × Int) (hd : ds[k]? = some d) (h : r = goS f acc (ds.drop k)) (hf : (f d).2 ≠ 0) : r = ([], (f d).2) := by
  obtain ⟨g1, g2⟩ := List.getElem?_eq_some_iff.1 hd
  rw [h, List.drop_eq_getElem_cons g1, g2]; exact if_pos hf
theorem goS_step (f : Int → Int × Int) (acc ds : List Int) (k : Nat) (d : Int) (r : List Int × Int) (hd : ds[k]? = some d) (h : r = goS f acc (ds.drop k)) (hf : (f d).2 = 0) : r = goS f (acc ++ [(f d).1]) (ds.drop (k + 1)) := by
  obtain ⟨g1, g2⟩ := List.getElem?_eq_some_iff.1 hd
  rw [h, List.drop_eq_getElem_cons g1, g2]; exact if_neg (by simp [hf])
theorem goS_end (f : Int → Int × Int) (acc ds : List Int) (k : Nat) (r : List Int × Int) (hk : ds.length ≤ k) (h : r = goS f acc (ds.drop k)) : r = (acc, 0) := by
  rw [h, List.drop_eq_nil_of_le hk]; rfl
theorem checkV_zero (e : Ev) (v : Int) (h : checkV e v = 0) : Tt.serV e.days = 0 ∧ 0 ≤ e.start ∧ e.start < 1440 := by
  unfold checkV at h
  split at h
  · cases h
  · split at h
    · rename_i g; exact absurd h g
    · split at h
      · cases h
      · split at h
        · cases h
        · rename_i g; exact ⟨by rename_i g2 _; simpa using g2, by omega, by omega⟩
theorem days_bounds (s : Tt.Ser) (h : Tt.serV s = 0) (k : Nat) (d : Int) (hd : (Tt.serDays s)[k]? = some d) : 0 ≤ d ∧ d < 36525 := by
  obtain ⟨hh, _, _⟩ := (Tt.serV_zero s).1 h
  have hm : d ∈ Tt.serDays s := List.mem_of_getElem? hd
  unfold Tt.serDays at hm
  rw [if_neg (by simp [h])] at hm
  have := (List.mem_filter.1 hm).1
  unfold Tt.span at this
  rw [Tt.mem_daysFrom] at this
  have h1 := hh.f0; have h2 := hh.l1
  omega
theorem days_len (s : Tt.Ser) (h : Tt.serV s = 0) : (Tt.serDays s).length ≤ 36525 := by
  obtain ⟨hh, _, _⟩ := (Tt.serV_zero s).1 h
  unfold Tt.serDays
  rw [if_neg (by simp [h])]
  refine Nat.le_trans (List.length_filter_le _ _) ?_
  unfold Tt.span
  rw [Tt.daysFrom_length]
  have h1 := hh.f0; have h2 := hh.l1
  omega
end Go.Proofs.YtageielcdebjlaaGreatDoor
