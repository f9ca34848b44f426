/- The offset at an instant, and the instants of a local time (zone.Instants, timetableref38.offset, timetableref38.Instants): their contracts. The offset at an instant, and the instants of a local time (timetableref38.Instants): their contracts. What a local time means (zone.Resolve, timetableref38.Resolve): their contracts. Plain: the instants at which an event starts. No program in sight. Condition: none. feed.Starts: their contracts. -/
import Derived.Test.YtageielcdebjlaaGreatDoorZoneW
import Derived.Test.YtageielcdebjlaaGreatDoorDaysAll
import Derived.Test.YtageielcdebjlaaGreatDoorPk5
import Derived.Test.YtageielcdebjlaaGreatDoorPk14
import Derived.Test.YtageielcdebjlaaGreatDoorPk7
-- ZoneI
namespace Go.Proofs.YtageielcdebjlaaGreatDoor
open Go.RowKit

set_option maxHeartbeats 8000000 in
set_option maxRecDepth 100000 in
theorem instants76 (n : ByteArray) (v : Int) (sh : List (Int × Int)) (ao : Option Addr) (c : Nat) (B : Nat) (l : Int) (w : World) (hB : B ≤ w.heap.size) (hE : Shs B w ao sh) (hn : sh.length ≤ 4611686018427387903) :
    Calls Tryz.prog 76 #[.agg #[.string n, .int .i64 v, .slice ao sh.length c], .int .i64 l] w fun e w' => ∃ u, e = .returned u ∧ w'.ownsRow w.heap.size 3 1 u (Tt.instV (Tt.code n.data.toList) v sh l).length ((Tt.instV (Tt.code n.data.toList) v sh l).map (Value.int .i64)) ∧ Below w.heap.size w w' := by
  obtain ⟨i0, hi, hz0, hz1, hz2⟩ := info_parts infoInt
  have F0 : ZoneB w.heap.size n v (.slice ao sh.length c) (w.alloc (.cells #[.string n, .int .i64 v, .slice ao sh.length c] 50)) := heap_alloc_new w _
  have HF0 := Lib.hid F0; have HV := Lib.hid (zone59 n v sh ao c B (w.alloc (.cells #[.string n, .int .i64 v, .slice ao sh.length c] 50)) (by simp; omega) (hE.below ((below_box w _).mono hB)) hn)
  have HE := Lib.hid hE; clear hE F0; by_cases hv : Tt.zoneV (Tt.code n.data.toList) v sh = 0
  · obtain ⟨-, hv1, hv2, hn64, -, hasc⟩ := Tt.zoneV_zero _ _ _ hv
    have HASC := Lib.hid hasc; have HVV := Lib.hid hv; have HD := Lib.hid (show Tt.instV (Tt.code n.data.toList) v sh l = Tt.instP 0 v sh l from if_neg (by simp [hv]))
    clear hv hasc; by_cases hl : -840 ≤ l ∧ l < 52596840
    · obtain ⟨l1, l2⟩ := hl; have l1' : ¬ l < -840 := by omega
      have l2' : ¬ 52596840 ≤ l := by omega
      have l3' : ¬ 52596840 - 1 < l := by omega
      go_enter Tryz.func76, Tryz.ntmps76
      obtain ⟨f0, f1, f2⟩ := HF0.out.c
      go_wp2_with fail
      refine HV.out.mono ?_
      rintro e w0 ⟨rfl, hb0⟩; rw [HVV.out]
      have hbe0 := below_then (below_box w _) hb0
      have HF := Lib.hid (HF0.out.block (hb0.block _ HF0.out.lt))
      clear HV hb0 f0 f1 f2; obtain ⟨f0, f1, f2⟩ := HF.out.c
      go_wp2_with fail
      clear f0 f1 f2; generalize hgw : w0 = wz at hbe0 HF ⊢
      obtain ⟨f0, f1, f2⟩ := HF.out.c
      go_quiet (fail)
      obtain ⟨w1, hw1, hB1, hC1, hH1⟩ := redrew wz nq
      have hbe1 := hbe0.trans (hB1 _)
      have HF1 := Lib.hid (HF.out.block (hH1 _))
      rw [← hw1]; clear hw1 hB1 hC1 hH1 f0 f1 f2 HF hbe0 hgw; obtain ⟨f0, f1, f2⟩ := HF1.out.c
      go_wp2_with fail
      clear f0 f1 f2; go_loopw [5, 6, 7, 8] (fun ov bv fv iv wr => ∃ (k : Nat) (acc : List Int) (lo of : Int), bv = .int .i64 lo ∧ fv = .int .i64 of ∧ iv = .int .i64 k ∧ k ≤ sh.length + 1 ∧ -840 ≤ of ∧ of ≤ 840 ∧ Below w.heap.size w wr ∧ Hid (ZoneB w.heap.size n v (.slice ao sh.length c) wr) ∧ wr.ownsRow (w.heap.size + 1) 3 1 ov acc.length (acc.map (Value.int .i64)) ∧ acc.length ≤ k ∧ Hid (k ≤ sh.length → Tt.instP 0 v sh l = acc ++ Tt.instP lo of (sh.drop k) l) ∧ Hid (sh.length < k → Tt.instP 0 v sh l = acc)) (fun _ _ _ iv _ => sh.length + 1 - (intOf iv).toNat)
      case atStart => exact ⟨0, [], 0, v, rfl, rfl, by go_num, by omega, hv1, hv2, hbe1, HF1.out, World.ownsRow_nil _ _ _ _, Nat.le_refl _, fun _ => rfl, fun h => by omega⟩
      case round =>
        clear hbe1 HF1; obtain ⟨k, acc, lo, of, rfl, rfl, rfl, hk, o1, o2, hbe, HF, hown, hal, HK, HK2⟩ := hrel; obtain ⟨f0, f1, f2⟩ := HF.out.c
        have hsz := HF.out.lt; by_cases hlt : k < sh.length
        · obtain ⟨x, hx⟩ : ∃ x, sh[k]? = some x := ⟨_, List.getElem?_eq_getElem hlt⟩
          obtain ⟨b, o, ha, hb, hev⟩ := HE.out.form (by omega)
          subst ha; obtain ⟨a0, a1⟩ := hev k x hx
          have c0 := (hbe.cell (p := ⟨b, o + k * 2, none⟩) (by simp; omega)).trans a0
          have hki : (k : Int) < (sh.length : Int) := by omega
          have hki2 : (k : Int) ≤ (sh.length : Int) := by omega
          have HA1 := Lib.hid a1; have HSTEP := Lib.hid (show Tt.instP 0 v sh l = acc ++ ((if lo ≤ l - of ∧ l - of < x.1 then [l - of] else []) ++ Tt.instP x.1 x.2 (sh.drop (k + 1)) l) by
            obtain ⟨g1, g2⟩ := List.getElem?_eq_some_iff.1 hx
            rw [HK.out (by omega), List.drop_eq_getElem_cons g1, g2]; rfl)
          have HB := Lib.hid (Tt.asc_get sh 0 k x HASC.out hx)
          clear a0 a1 hev hx HK HK2; obtain ⟨at1, of1⟩ := x; simp only at c0 HA1 HSTEP HB
          by_cases hin : lo ≤ l - of ∧ l - of < at1
          · have HN1 := Lib.hid (show Tt.instP 0 v sh l = (acc ++ [l - of]) ++ Tt.instP at1 of1 (sh.drop (k + 1)) l by rw [HSTEP.out, if_pos hin, List.append_assoc])
            obtain ⟨q1, q2⟩ := hin; go_wp2_with (at_builtin; refine wpList_append_own _ rfl (.tmp 53) (.tmp 55) 27 rfl (w.heap.size + 1) 3 i0 (.int .i64 0) 1 8 Tryz.underlying27 hi hz0 hz1 hz2 rfl (by decide) _ _ _ rfl (hown.alloc _) ⟨wr.heap.size, 0, none⟩ 1 1 [.int .i64 (l - of)] rfl rfl (cell_one _ _ _) (by intro u hu; simp at hu; subst hu; rfl) (by unfold maxLen; omega) (by omega) (by simp; omega) ?_)
            intro v' w3 hown3 hgrow _; have hbl : Below (w.heap.size + 1) wr w3 := ((Below.refl _ wr).alloc (by omega) _).grown hgrow (by simp; omega) (fun k hk => (hown.lt k hk).1)
            have hbe3 : Below w.heap.size w w3 := hbe.trans (hbl.mono (by omega))
            have HF3 := Lib.hid (HF.out.block (hbl.block _ (by omega)))
            have c1 := (hbe3.cell (p := ⟨b, o + k * 2 + 1, none⟩) (by simp; omega)).trans HA1.out
            clear hgrow hown hbl hbe HF c0 f0 f1 f2; obtain ⟨f0, f1, f2⟩ := HF3.out.c
            go_wp2_with fail
            go_quiet (fail)
            obtain ⟨w4, hw4, hB4, hC4, hH4⟩ := redrew w3 nq
            have hbe4 := hbe3.trans (hB4 _)
            have HF4 := Lib.hid (HF3.out.block (hH4 _))
            have hown4 := ownsRow_below hown3 (hB4 _)
            rw [← hw4]; clear hw4 hB4 hC4 hH4 f0 f1 f2 c1 hown3 hbe3 HF3; obtain ⟨f0, f1, f2⟩ := HF4.out.c
            go_wp2_with fail
            go_roundw
            case rel => exact ⟨k + 1, _, at1, of1, rfl, rfl, by go_num, by omega, HB.out.2.2.1, HB.out.2.2.2, hbe4, HF4.out, by simpa using hown4, by simp; omega, fun _ => HN1.out, fun h => by omega⟩
            case measure => simp [intOf]; omega
          · have HN1 := Lib.hid (show Tt.instP 0 v sh l = acc ++ Tt.instP at1 of1 (sh.drop (k + 1)) l by rw [HSTEP.out, if_neg hin]; rfl)
            have c1 := (hbe.cell (p := ⟨b, o + k * 2 + 1, none⟩) (by simp; omega)).trans HA1.out
            by_cases q1 : lo ≤ l - of
            · have q2 : ¬ l - of < at1 := by omega
              clear hin; go_wp2_with fail
              go_quiet (fail)
              obtain ⟨w4, hw4, hB4, hC4, hH4⟩ := redrew wr nq
              have hbe4 := hbe.trans (hB4 _)
              have HF4 := Lib.hid (HF.out.block (hH4 _))
              have hown4 := ownsRow_below hown (hB4 _)
              rw [← hw4]; clear hw4 hB4 hC4 hH4 f0 f1 f2 c0 c1 hown hbe HF; obtain ⟨f0, f1, f2⟩ := HF4.out.c
              go_wp2_with fail
              go_roundw
              case rel => exact ⟨k + 1, _, at1, of1, rfl, rfl, by go_num, by omega, HB.out.2.2.1, HB.out.2.2.2, hbe4, HF4.out, hown4, by omega, fun _ => HN1.out, fun h => by omega⟩
              case measure => simp [intOf]; omega
            · clear hin; go_wp2_with fail
              go_quiet (fail)
              obtain ⟨w4, hw4, hB4, hC4, hH4⟩ := redrew wr nq
              have hbe4 := hbe.trans (hB4 _)
              have HF4 := Lib.hid (HF.out.block (hH4 _))
              have hown4 := ownsRow_below hown (hB4 _)
              rw [← hw4]; clear hw4 hB4 hC4 hH4 f0 f1 f2 c0 c1 hown hbe HF; obtain ⟨f0, f1, f2⟩ := HF4.out.c
              go_wp2_with fail
              go_roundw
              case rel => exact ⟨k + 1, _, at1, of1, rfl, rfl, by go_num, by omega, HB.out.2.2.1, HB.out.2.2.2, hbe4, HF4.out, hown4, by omega, fun _ => HN1.out, fun h => by omega⟩
              case measure => simp [intOf]; omega
        · by_cases hlt2 : k = sh.length
          · subst hlt2; have HSTEP := Lib.hid (show Tt.instP 0 v sh l = acc ++ (if lo ≤ l - of ∧ l - of < 52596000 then [l - of] else []) by
              rw [HK.out (Nat.le_refl _), List.drop_eq_nil_of_le (Nat.le_refl _)]; rfl)
            clear HK HK2 hlt; by_cases hin : lo ≤ l - of ∧ l - of < 52596000
            · have HN1 := Lib.hid (show Tt.instP 0 v sh l = (acc ++ [l - of]) by rw [HSTEP.out, if_pos hin])
              obtain ⟨q1, q2⟩ := hin; go_wp2_with (at_builtin; refine wpList_append_own _ rfl (.tmp 53) (.tmp 55) 27 rfl (w.heap.size + 1) 3 i0 (.int .i64 0) 1 8 Tryz.underlying27 hi hz0 hz1 hz2 rfl (by decide) _ _ _ rfl (hown.alloc _) ⟨wr.heap.size, 0, none⟩ 1 1 [.int .i64 (l - of)] rfl rfl (cell_one _ _ _) (by intro u hu; simp at hu; subst hu; rfl) (by unfold maxLen; omega) (by omega) (by simp; omega) ?_)
              intro v' w3 hown3 hgrow _; have hbl : Below (w.heap.size + 1) wr w3 := ((Below.refl _ wr).alloc (by omega) _).grown hgrow (by simp; omega) (fun k hk => (hown.lt k hk).1)
              have hbe3 : Below w.heap.size w w3 := hbe.trans (hbl.mono (by omega))
              have HF3 := Lib.hid (HF.out.block (hbl.block _ (by omega)))
              clear hgrow hown hbl hbe HF f0 f1 f2; obtain ⟨f0, f1, f2⟩ := HF3.out.c
              go_wp2_with fail
              go_roundw
              case rel => exact ⟨sh.length + 1, _, lo, of, rfl, rfl, by go_num, by omega, o1, o2, hbe3, HF3.out, by simpa using hown3, by simp; omega, fun h => by omega, fun _ => HN1.out⟩
              case measure => simp [intOf]
            · have HN1 := Lib.hid (show Tt.instP 0 v sh l = acc by rw [HSTEP.out, if_neg hin, List.append_nil])
              go_wp2_with fail
              all_goals first
                | (go_roundw
                   case rel => exact ⟨sh.length + 1, _, lo, of, rfl, rfl, by go_num, by omega, o1, o2, hbe, HF.out, hown, by omega, fun h => by omega, fun _ => HN1.out⟩
                   case measure => simp [intOf])
                | (exfalso; omega)
          · have hki : ¬ (k : Int) ≤ (sh.length : Int) := by omega
            have HR := Lib.hid (HD.out.trans (HK2.out (by omega)))
            go_wp2_with fail
            go_ret; exact ⟨_, rfl, by rw [HR.out]; exact ownsRow_mono hown (by omega), hbe⟩
    · have HR := Lib.hid (show Tt.instV (Tt.code n.data.toList) v sh l = [] from HD.out.trans (Tt.inst_far v sh l HASC.out hv1 hv2 (by omega)))
      go_enter Tryz.func76, Tryz.ntmps76
      obtain ⟨f0, f1, f2⟩ := HF0.out.c
      go_wp2_with fail
      refine HV.out.mono ?_
      rintro e w0 ⟨rfl, hb0⟩; rw [HVV.out]
      have hbe0 := below_then (below_box w _) hb0
      clear HV hb0 f0 f1 f2 HF0; go_wp2_with fail
      all_goals first
        | (go_ret; exact ⟨_, rfl, by rw [HR.out]; exact World.ownsRow_nil _ _ _ _, hbe0⟩)
        | (exfalso; omega)
  · have HR := Lib.hid (show Tt.instV (Tt.code n.data.toList) v sh l = [] from if_pos hv)
    have HVV := Lib.hid (show (Tt.zoneV (Tt.code n.data.toList) v sh != 0) = true by simp [hv])
    clear hv; go_enter Tryz.func76, Tryz.ntmps76
    obtain ⟨f0, f1, f2⟩ := HF0.out.c
    go_wp2_with fail
    refine HV.out.mono ?_
    rintro e w0 ⟨rfl, hb0⟩; have hbe0 := below_then (below_box w _) hb0
    clear HV hb0 f0 f1 f2 HF0; have hvv := HVV.out; go_wp2_with fail
    go_ret; exact ⟨_, rfl, by rw [HR.out]; exact World.ownsRow_nil _ _ _ _, hbe0⟩

end Go.Proofs.YtageielcdebjlaaGreatDoor

-- ZoneI2
namespace Go.Proofs.YtageielcdebjlaaGreatDoor
open Go.RowKit

end Go.Proofs.YtageielcdebjlaaGreatDoor

-- ZoneR
namespace Go.Proofs.YtageielcdebjlaaGreatDoor
open Go.RowKit

theorem ret_ints {a a' b b' : Int} (h : a = a') (h2 : b = b') : Ending.returned (.tuple #[.int .i64 a, .int .i64 b]) = .returned (.tuple #[.int .i64 a', .int .i64 b']) := by rw [h, h2]
theorem row_ints {B : Nat} {w : World} {v : Value} {xs : List Int} (h : w.ownsRow B 3 1 v xs.length (xs.map (Value.int .i64))) :
    ∃ ao c, v = .slice ao xs.length c ∧ Ints w.heap.size w ao xs := by
  rcases h.2 with ⟨hv, h0⟩ | ⟨g, cap, cur, hv, r2, r3, r4, r5, _⟩
  · refine ⟨none, 0, by rw [hv, h0], fun j x hj => ?_⟩
    rw [List.eq_nil_of_length_eq_zero h0] at hj; simp at hj
  · refine ⟨_, cap, hv, fun j x hj => ⟨_, rfl, (Array.getElem?_eq_some_iff.1 r3).1, ?_⟩⟩
    subst hv; exact h.cells (g := g) rfl j _ (by simp [hj])

set_option maxHeartbeats 8000000 in
set_option maxRecDepth 100000 in
theorem resolve117 (n : ByteArray) (v : Int) (sh : List (Int × Int)) (ao : Option Addr) (c : Nat) (B : Nat) (l : Int) (w : World) (hB : B ≤ w.heap.size) (hE : Shs B w ao sh) (hn : sh.length ≤ 4611686018427387903) (hl1 : -1000000000 ≤ l) (hl2 : l ≤ 1000000000) :
    Calls Tryz.prog 117 #[.agg #[.string n, .int .i64 v, .slice ao sh.length c], .int .i64 l] w fun e w' => e = .returned (.tuple #[.int .i64 (Tt.resV (Tt.code n.data.toList) v sh l).1, .int .i64 (Tt.resV (Tt.code n.data.toList) v sh l).2]) ∧ Below w.heap.size w w' := by
  have F0 : ZoneB w.heap.size n v (.slice ao sh.length c) (w.alloc (.cells #[.string n, .int .i64 v, .slice ao sh.length c] 50)) := heap_alloc_new w _
  have HF0 := Lib.hid F0; have HV := Lib.hid (zone59 n v sh ao c B (w.alloc (.cells #[.string n, .int .i64 v, .slice ao sh.length c] 50)) (by simp; omega) (hE.below ((below_box w _).mono hB)) hn)
  have HE := Lib.hid hE; clear hE F0; by_cases hv : Tt.zoneV (Tt.code n.data.toList) v sh = 0
  · obtain ⟨-, hv1, hv2, hn64, -, hasc⟩ := Tt.zoneV_zero _ _ _ hv
    have HASC := Lib.hid hasc; have HVV := Lib.hid hv; have HD := Lib.hid (show Tt.instV (Tt.code n.data.toList) v sh l = Tt.instP 0 v sh l from if_neg (by simp [hv]))
    clear hv hasc; go_enter Tryz.func117, Tryz.ntmps117
    obtain ⟨f0, f1, f2⟩ := HF0.out.c
    go_wp2_with fail
    refine HV.out.mono ?_
    rintro e w0 ⟨rfl, hb0⟩; rw [HVV.out]
    have hbe0 := below_then (below_box w _) hb0
    have HF := Lib.hid (HF0.out.block (hb0.block _ HF0.out.lt))
    clear HV hb0 f0 f1 f2; obtain ⟨f0, f1, f2⟩ := HF.out.c
    go_wp2_with fail
    refine (instants76 n v sh ao c B l w0 (by have := hbe0.size; omega) (HE.out.below (hbe0.mono hB)) hn).mono ?_
    rintro e w1 ⟨u, rfl, hown, hb1⟩; have hbe1 := below_then hbe0 hb1; have HF1 := Lib.hid (HF.out.block (hb1.block _ HF.out.lt))
    rw [HD.out] at hown
    clear hb1 hbe0 HF f0 f1 f2; obtain ⟨ao1, c1, rfl, hI1⟩ := row_ints hown
    clear hown; obtain ⟨L, hL⟩ : ∃ L, L = Tt.instP 0 v sh l := ⟨_, rfl⟩
    rw [← hL] at hI1 ⊢
    cases hh : L with
    | cons t r =>
      have HR := Lib.hid (Tt.resV_hit (Tt.code n.data.toList) v sh l t r HVV.out (hL.symm.trans hh))
      have hlen : (0 : Int) < (L.length : Int) := by rw [hh]; simp
      obtain ⟨b, o, ha, hb, hc⟩ := hI1.form (by omega)
      have hc0 := hc 0 t (by rw [hh]; rfl)
      simp only [Nat.add_zero] at hc0
      subst ha; rw [← hh]; clear hh hL hc hI1; go_wp2_with fail
      go_ret2
      exact ⟨ret_ints (by rw [HR.out]) (by rw [HR.out]), hbe1⟩
    | nil =>
      have HR := Lib.hid (Tt.resV_gap (Tt.code n.data.toList) v sh l HVV.out (hL.symm.trans hh))
      clear hh hL hI1; obtain ⟨f0, f1, f2⟩ := HF1.out.c
      go_wp2_with fail
      clear f0 f1 f2; go_loopw [8, 30] (fun fv iv wr => ∃ (k : Nat) (of : Int), fv = .int .i64 of ∧ iv = .int .i64 k ∧ k ≤ sh.length ∧ -840 ≤ of ∧ of ≤ 840 ∧ Below w.heap.size w wr ∧ Hid (ZoneB w.heap.size n v (.slice ao sh.length c) wr) ∧ Hid (Tt.gapP v sh l = Tt.gapP of (sh.drop k) l)) (fun _ iv _ => sh.length - (intOf iv).toNat)
      case atStart => exact ⟨0, v, rfl, rfl, by omega, hv1, hv2, hbe1, HF1.out, rfl⟩
      case round =>
        clear hbe1 HF1; obtain ⟨k, of, rfl, rfl, hk, o1, o2, hbe, HF, HK⟩ := hrel; obtain ⟨f0, f1, f2⟩ := HF.out.c
        have hsz := HF.out.lt; by_cases hlt : k < sh.length
        · obtain ⟨x, hx⟩ : ∃ x, sh[k]? = some x := ⟨_, List.getElem?_eq_getElem hlt⟩
          obtain ⟨b, o, ha, hb, hev⟩ := HE.out.form (by omega)
          subst ha; obtain ⟨a0, a1⟩ := hev k x hx
          have c0 := (hbe.cell (p := ⟨b, o + k * 2, none⟩) (by simp; omega)).trans a0
          have c1 := (hbe.cell (p := ⟨b, o + k * 2 + 1, none⟩) (by simp; omega)).trans a1
          have hki : (k : Int) < (sh.length : Int) := by omega
          have HSTEP := Lib.hid (Tt.gapP_at v sh l of k x hx HK.out)
          have HB := Lib.hid (Tt.asc_get sh 0 k x HASC.out hx)
          clear a0 a1 hev hx HK; obtain ⟨at1, of1⟩ := x; simp only at c0 c1 HSTEP HB
          obtain ⟨b1, b2, b3, b4⟩ := HB.out
          have hbe2 := hbe.trans ((below_box wr (.cells #[.int .i64 at1, .int .i64 of1] 137)).mono hbe.size)
          have HF2 := Lib.hid (HF.out.block ((below_box wr (.cells #[.int .i64 at1, .int .i64 of1] 137)).block _ hsz))
          by_cases hin : at1 + of ≤ l ∧ l < at1 + of1
          · obtain ⟨q1, q2⟩ := hin; cases hib : Tt.instB (l - of)
            · have HN := Lib.hid (HR.out.trans (HSTEP.out.trans ((if_pos ⟨q1, q2⟩).trans (if_neg (by rw [hib]; simp)))))
              have HI := Lib.hid hib; clear hib; go_wp2_with (go_at_call 122; refine (inst122 _ _).mono ?_; rintro e w' ⟨rfl, hw⟩; rw [hw, HI.out]; clear hw w')
              go_ret2
              exact ⟨ret_ints (by rw [HN.out]) (by rw [HN.out]), hbe2⟩
            · have HN := Lib.hid (HR.out.trans ((HSTEP.out.trans ((if_pos ⟨q1, q2⟩).trans (if_pos hib)))))
              have HI := Lib.hid hib; clear hib; go_wp2_with (go_at_call 122; refine (inst122 _ _).mono ?_; rintro e w' ⟨rfl, hw⟩; rw [hw, HI.out]; clear hw w')
              go_ret2
              exact ⟨ret_ints (by rw [HN.out]) (by rw [HN.out]), hbe2⟩
          · have HN := Lib.hid (HSTEP.out.trans (if_neg hin))
            by_cases q1 : at1 + of ≤ l
            · have q2 : ¬ l < at1 + of1 := by omega
              clear hin; go_wp2_with fail
              go_roundw
              case rel => exact ⟨k + 1, of1, rfl, by go_num, by omega, b3, b4, hbe2, HF2.out, HN.out⟩
              case measure => simp [intOf]; omega
            · clear hin; go_wp2_with fail
              go_roundw
              case rel => exact ⟨k + 1, of1, rfl, by go_num, by omega, b3, b4, hbe2, HF2.out, HN.out⟩
              case measure => simp [intOf]; omega
        · have hki : ¬ (k : Int) < (sh.length : Int) := by omega
          have HN := Lib.hid (HR.out.trans ((show Tt.gapP v sh l = (0, 3) by rw [HK.out, List.drop_eq_nil_of_le (by omega)]; rfl)))
          go_wp2_with fail
          go_ret2
          exact ⟨ret_ints (by rw [HN.out]) (by rw [HN.out]), hbe⟩
  · have HR := Lib.hid (Tt.resV_bad (Tt.code n.data.toList) v sh l hv)
    have HVV := Lib.hid (show (Tt.zoneV (Tt.code n.data.toList) v sh != 0) = true by simp [hv])
    clear hv; go_enter Tryz.func117, Tryz.ntmps117
    obtain ⟨f0, f1, f2⟩ := HF0.out.c
    go_wp2_with fail
    refine HV.out.mono ?_
    rintro e w0 ⟨rfl, hb0⟩; have hbe0 := below_then (below_box w _) hb0
    clear HV hb0 f0 f1 f2 HF0; have hvv := HVV.out; go_wp2_with fail
    go_ret2
    exact ⟨ret_ints (by rw [HR.out]) (by rw [HR.out]), hbe0⟩

end Go.Proofs.YtageielcdebjlaaGreatDoor

-- Start
namespace Go.Proofs.YtageielcdebjlaaGreatDoor

/-- The instants behind some, day by day, and the error. -/
def goS (f : Int → Int × Int) : List Int → List Int → List Int × Int
  | acc, [] => (acc, 0)
  | acc, d :: r => if (f d).2 ≠ 0 then ([], (f d).2) else goS f (acc ++ [(f d).1]) r
/-- What a day's start means in a zone. -/
def dayT (code : Bool) (v : Int) (sh : List (Int × Int)) (start d : Int) : Int × Int := Tt.resV code v sh (1440 * d + start)
/-- The instants at which an event starts, and the error. -/
def startsV (code : Bool) (v : Int) (sh : List (Int × Int)) (e : Ev) : List Int × Int :=
  if Tt.zoneV code v sh ≠ 0 then ([], Tt.zoneV code v sh)
  else if rightB e.uid.data.toList = false ∨ checkV e 64 ≠ 0 then ([], 1)
  else goS (dayT code v sh e.start) [] (Tt.serDays e.days)

theorem startsV_zone (code : Bool) (v : Int) (sh : List (Int × Int)) (e : Ev) (h : Tt.zoneV code v sh ≠ 0) : startsV code v sh e = ([], Tt.zoneV code v sh) := if_pos h
theorem startsV_event (code : Bool) (v : Int) (sh : List (Int × Int)) (e : Ev) (h : Tt.zoneV code v sh = 0) (h2 : rightB e.uid.data.toList = false ∨ checkV e 64 ≠ 0) : startsV code v sh e = ([], 1) := (if_neg (by simp [h])).trans (if_pos h2)
theorem startsV_days (code : Bool) (v : Int) (sh : List (Int × Int)) (e : Ev) (h : Tt.zoneV code v sh = 0) (h2 : rightB e.uid.data.toList = true) (h3 : checkV e 64 = 0) :
    startsV code v sh e = goS (dayT code v sh e.start) [] (Tt.serDays e.days) := (if_neg (by simp [h])).trans (if_neg (by simp [h2, h3]))
theorem goS_bad (f : Int → Int × Int) (acc ds : List Int) (k : Nat) (d : Int) (r : List Int × Int) (hd : ds[k]? = some d) (h : r = goS f acc (ds.drop k)) (hf : (f d).2 ≠ 0) : r = ([], (f d).2) := by
  obtain ⟨g1, g2⟩ := List.getElem?_eq_some_iff.1 hd
  rw [h, List.drop_eq_getElem_cons g1, g2]; exact if_pos hf
theorem goS_step (f : Int → Int × Int) (acc ds : List Int) (k : Nat) (d : Int) (r : List Int × Int) (hd : ds[k]? = some d) (h : r = goS f acc (ds.drop k)) (hf : (f d).2 = 0) : r = goS f (acc ++ [(f d).1]) (ds.drop (k + 1)) := by
  obtain ⟨g1, g2⟩ := List.getElem?_eq_some_iff.1 hd
  rw [h, List.drop_eq_getElem_cons g1, g2]; exact if_neg (by simp [hf])
theorem goS_end (f : Int → Int × Int) (acc ds : List Int) (k : Nat) (r : List Int × Int) (hk : ds.length ≤ k) (h : r = goS f acc (ds.drop k)) : r = (acc, 0) := by
  rw [h, List.drop_eq_nil_of_le hk]; rfl
theorem checkV_zero (e : Ev) (v : Int) (h : checkV e v = 0) : Tt.serV e.days = 0 ∧ 0 ≤ e.start ∧ e.start < 1440 := by
  unfold checkV at h
  split at h
  · cases h
  · split at h
    · rename_i g; exact absurd h g
    · split at h
      · cases h
      · split at h
        · cases h
        · rename_i g; exact ⟨by rename_i g2 _; simpa using g2, by omega, by omega⟩
theorem days_bounds (s : Tt.Ser) (h : Tt.serV s = 0) (k : Nat) (d : Int) (hd : (Tt.serDays s)[k]? = some d) : 0 ≤ d ∧ d < 36525 := by
  obtain ⟨hh, _, _⟩ := (Tt.serV_zero s).1 h
  have hm : d ∈ Tt.serDays s := List.mem_of_getElem? hd
  unfold Tt.serDays at hm
  rw [if_neg (by simp [h])] at hm
  have := (List.mem_filter.1 hm).1
  unfold Tt.span at this
  rw [Tt.mem_daysFrom] at this
  have h1 := hh.f0; have h2 := hh.l1
  omega
theorem days_len (s : Tt.Ser) (h : Tt.serV s = 0) : (Tt.serDays s).length ≤ 36525 := by
  obtain ⟨hh, _, _⟩ := (Tt.serV_zero s).1 h
  unfold Tt.serDays
  rw [if_neg (by simp [h])]
  refine Nat.le_trans (List.length_filter_le _ _) ?_
  unfold Tt.span
  rw [Tt.daysFrom_length]
  have h1 := hh.f0; have h2 := hh.l1
  omega
end Go.Proofs.YtageielcdebjlaaGreatDoor
namespace Go.Proofs.YtageielcdebjlaaGreatDoor
open Go.RowKit

set_option maxHeartbeats 16000000 in
set_option maxRecDepth 100000 in
theorem starts55 (n : ByteArray) (v : Int) (sh : List (Int × Int)) (az : Option Addr) (cz : Nat) (e : Ev) (B : Nat) (w : World) (ao ao' : Option Addr) (c c' : Nat) (hB : B ≤ w.heap.size) (hI : Ints B w ao e.days.ex) (hI' : Ints B w ao' e.days.xt) (hb : EvB e) (hu : e.uid.size ≤ 4611686018427387904) (hE : Shs B w az sh) (hn : sh.length ≤ 4611686018427387903) :
    Calls Tryz.prog 55 #[evVal e (.slice ao e.days.ex.length c) (.slice ao' e.days.xt.length c'), .agg #[.string n, .int .i64 v, .slice az sh.length cz]] w fun x w' => ∃ u, x = .returned (.tuple #[u, .int .i64 (startsV (Tt.code n.data.toList) v sh e).2]) ∧ w'.ownsRow w.heap.size 3 1 u (startsV (Tt.code n.data.toList) v sh e).1.length ((startsV (Tt.code n.data.toList) v sh e).1.map (Value.int .i64)) ∧ Below w.heap.size w w' := by
  obtain ⟨i0, hi, hz0, hz1, hz2⟩ := info_parts infoInt
  have hbx := below_then (below_box w (.cells (evCells e (.slice ao e.days.ex.length c) (.slice ao' e.days.xt.length c')) 82)) (below_box _ (.cells #[.string n, .int .i64 v, .slice az sh.length cz] 50))
  have S0 : EvBox w.heap.size e (.slice ao e.days.ex.length c) (.slice ao' e.days.xt.length c') ((w.alloc (.cells (evCells e (.slice ao e.days.ex.length c) (.slice ao' e.days.xt.length c')) 82)).alloc (.cells #[.string n, .int .i64 v, .slice az sh.length cz] 50)) := (Lib.alloc_old _ _ _ (by simp)).trans (heap_alloc_new w _)
  have F0 : ZoneB (w.heap.size + 1) n v (.slice az sh.length cz) ((w.alloc (.cells (evCells e (.slice ao e.days.ex.length c) (.slice ao' e.days.xt.length c')) 82)).alloc (.cells #[.string n, .int .i64 v, .slice az sh.length cz] 50)) := by
    have := heap_alloc_new (w.alloc (.cells (evCells e (.slice ao e.days.ex.length c) (.slice ao' e.days.xt.length c')) 82)) (.cells #[.string n, .int .i64 v, .slice az sh.length cz] 50)
    simpa [ZoneB] using this
  have HS0 := Lib.hid S0; have HF0 := Lib.hid F0; have HV := Lib.hid (zone59 n v sh az cz B ((w.alloc (.cells (evCells e (.slice ao e.days.ex.length c) (.slice ao' e.days.xt.length c')) 82)).alloc (.cells #[.string n, .int .i64 v, .slice az sh.length cz] 50)) (by simp; omega) (hE.below (hbx.mono hB)) hn)
  have HE := Lib.hid hE; have HI := Lib.hid hI; have HI' := Lib.hid hI'; have HBX := Lib.hid hbx; have HRES := Lib.hid (resolve117 n v sh az cz B)
  have HC := Lib.hid (check96 e 64 B)
  clear hI hI' hE S0 F0 hbx; unfold evCells at HV HS0 HF0 HBX
  unfold evVal evCells
  by_cases hv : Tt.zoneV (Tt.code n.data.toList) v sh = 0
  · have HVV := Lib.hid hv; clear hv
    go_enter Tryz.func55, Tryz.ntmps55
    obtain ⟨f0, f1, f2⟩ := HF0.out.c
    go_wp2_with fail
    refine HV.out.mono ?_
    rintro x w0 ⟨rfl, hb0⟩; rw [HVV.out]
    have hbe0 := below_then HBX.out hb0
    have HF := Lib.hid (ZoneB.block HF0.out (hb0.block _ (HF0.out.lt)))
    have HS := Lib.hid (EvBox.block (e := e) HS0.out (hb0.block _ (EvBox.lt (e := e) HS0.out)))
    clear HV hb0 f0 f1 f2 HF0 HS0 HBX; obtain ⟨f0, f1, f2⟩ := HF.out.c
    obtain ⟨c0, c1, c2, c3, c4, c5, c6, c7, c8, c9, c10, c11, c12⟩ := HS.out.c
    go_wp2_with fail
    refine (right95 e.uid _ hu).mono ?_
    rintro x w1 ⟨rfl, hb1⟩; have hbe1 := below_then hbe0 hb1; have HF1 := Lib.hid (HF.out.block (hb1.block _ HF.out.lt))
    have HS1 := Lib.hid (HS.out.block (hb1.block _ HS.out.lt))
    clear hb1 hbe0 HF HS f0 f1 f2 c0 c1 c2 c3 c4 c5 c6 c7 c8 c9 c10 c11 c12; obtain ⟨f0, f1, f2⟩ := HF1.out.c
    obtain ⟨c0, c1, c2, c3, c4, c5, c6, c7, c8, c9, c10, c11, c12⟩ := HS1.out.c
    cases hr : rightB e.uid.data.toList
    · have HR := Lib.hid (startsV_event (Tt.code n.data.toList) v sh e HVV.out (.inl hr))
      clear hr; go_wp2_with fail
      go_ret2
      exact ⟨_, by rw [HR.out]; rfl, by rw [HR.out]; exact World.ownsRow_nil _ _ _ _, hbe1⟩
    · have HU := Lib.hid hr; clear hr
      go_wp2_with fail
      refine (HC.out _ ao ao' c c' (by have := hbe1.size; omega) (HI.out.below (hbe1.mono hB)) (HI'.out.below (hbe1.mono hB)) hb.ex hb.xt hb.summ hb.loc).mono ?_
      rintro x w2 ⟨rfl, hb2⟩; have hbe2 := below_then hbe1 hb2; have HF2 := Lib.hid (HF1.out.block (hb2.block _ HF1.out.lt))
      have HS2 := Lib.hid (HS1.out.block (hb2.block _ HS1.out.lt))
      clear hb2 hbe1 HF1 HS1 f0 f1 f2 c0 c1 c2 c3 c4 c5 c6 c7 c8 c9 c10 c11 c12; obtain ⟨f0, f1, f2⟩ := HF2.out.c
      obtain ⟨c0, c1, c2, c3, c4, c5, c6, c7, c8, c9, c10, c11, c12⟩ := HS2.out.c
      by_cases hcv : checkV e 64 = 0
      case neg =>
        have HR := Lib.hid (startsV_event (Tt.code n.data.toList) v sh e HVV.out (.inr hcv))
        have hcv2 : (checkV e 64 != 0) = true := by simp [hcv]
        clear hcv; go_wp2_with fail
        go_ret2
        exact ⟨_, by rw [HR.out]; rfl, by rw [HR.out]; exact World.ownsRow_nil _ _ _ _, hbe2⟩
      obtain ⟨hs, s0, s1⟩ := checkV_zero e 64 hcv
      have HR := Lib.hid (startsV_days (Tt.code n.data.toList) v sh e HVV.out HU.out hcv)
      rw [hcv]
      have HDL := Lib.hid (days_len e.days hs)
      have HDB := Lib.hid (days_bounds e.days hs)
      clear hcv hs; go_wp2_with fail
      refine (days74 e.days B _ hb.ex hb.xt ao ao' c c' (Nat.le_trans hB hbe2.size) (HI.out.below (hbe2.mono hB)) (HI'.out.below (hbe2.mono hB))).mono ?_
      rintro x w3 ⟨u, rfl, hown, hb3⟩; have hbe3 := below_then hbe2 hb3; have HF3 := Lib.hid (HF2.out.block (hb3.block _ HF2.out.lt))
      have HS3 := Lib.hid (HS2.out.block (hb3.block _ HS2.out.lt))
      clear hb3 hbe2 HF2 HS2 f0 f1 f2 c0 c1 c2 c3 c4 c5 c6 c7 c8 c9 c10 c11 c12; obtain ⟨ad, cd, rfl, hID⟩ := row_ints hown
      have HID := Lib.hid hID; clear hown hID; obtain ⟨ds, hds⟩ : ∃ ds, ds = Tt.serDays e.days := ⟨_, rfl⟩
      rw [← hds] at HR HDL HDB HID ⊢
      clear hds; go_wp2_with fail
      go_loopw [7, 30] (fun ov iv wr => ∃ (k : Nat) (acc : List Int), iv = .int .i64 k ∧ k ≤ ds.length ∧ Hid (Below w3.heap.size w3 wr) ∧ wr.ownsRow w3.heap.size 3 1 ov acc.length (acc.map (Value.int .i64)) ∧ acc.length ≤ k ∧ Hid (startsV (Tt.code n.data.toList) v sh e = goS (dayT (Tt.code n.data.toList) v sh e.start) acc (ds.drop k))) (fun _ iv _ => ds.length - (intOf iv).toNat)
      case atStart => exact ⟨0, [], by go_num, by omega, Lib.hid (Below.refl _ _), World.ownsRow_nil _ _ _ _, Nat.le_refl _, HR⟩
      case round =>
        obtain ⟨k, acc, rfl, hk, hbr, hown, hal, HK⟩ := hrel; have hszr := hbr.out.size; have hsz3 := hbe3.size; have hdl := HDL.out; have HFr := Lib.hid (HF3.out.block (hbr.out.block _ HF3.out.lt))
        have HSr := Lib.hid (HS3.out.block (hbr.out.block _ HS3.out.lt))
        by_cases hlt : k < ds.length
        · obtain ⟨d, hd⟩ : ∃ d, ds[k]? = some d := ⟨_, List.getElem?_eq_getElem hlt⟩
          obtain ⟨b, o, ha, hbb, hev⟩ := HID.out.form (by omega)
          have hki : (k : Int) < (ds.length : Int) := by omega
          have g0 := (hbr.out.cell (p := ⟨b, o + k, none⟩) (by simpa using hbb)).trans (hev k d hd)
          obtain ⟨d0, d1⟩ := HDB.out k d hd
          have HX := Lib.hid hd; subst ha; clear hev hd; obtain ⟨f0, f1, f2⟩ := HFr.out.c
          have c9 := HSr.out.c.c9; go_wp2_with fail
          refine (HRES.out (1440 * d + e.start) wr (by omega) ((HE.out.below (hbe3.mono hB)).below (hbr.out.mono (by omega))) hn (by omega) (by omega)).mono ?_
          rintro x w5 ⟨rfl, hb5⟩; have hbe5 : Below w3.heap.size w3 w5 := hbr.out.trans (hb5.mono hszr)
          have hown5 := ownsRow_below hown hb5; clear hb5 f0 f1 f2 c9 g0 hown hbr HFr HSr; by_cases hx : (dayT (Tt.code n.data.toList) v sh e.start d).2 = 0
          · have HN := Lib.hid (goS_step _ acc ds k d _ HX.out HK.out hx)
            obtain ⟨y, hy⟩ : ∃ y, y = dayT (Tt.code n.data.toList) v sh e.start d := ⟨_, rfl⟩
            rw [← hy] at hx HN
            rw [show Tt.resV (Tt.code n.data.toList) v sh (1440 * d + e.start) = y from hy.symm, hx]
            obtain ⟨y1, y2⟩ := y; clear hy hx; simp only at HN ⊢
            have hsz5 := hbe5.size; go_wp2_with (at_builtin; refine wpList_append_own _ rfl (.tmp 47) (.tmp 49) 27 rfl w3.heap.size 3 i0 (.int .i64 0) 1 8 Tryz.underlying27 hi hz0 hz1 hz2 rfl (by decide) _ _ _ rfl (hown5.alloc _) ⟨w5.heap.size, 0, none⟩ 1 1 [.int .i64 y1] rfl rfl (cell_one _ _ _) (by intro u hu; simp at hu; subst hu; rfl) (by unfold maxLen; omega) (by omega) (by simp; omega) ?_)
            intro v' w6 hown6 hgrow _; have hbl : Below w3.heap.size w5 w6 := ((Below.refl _ w5).alloc (by omega) _).grown hgrow (by simp; omega) (fun k hk => (hown5.lt k hk).1)
            have hbe6 := hbe5.trans hbl; clear hgrow hown5 hbl hbe5 hsz5; go_wp2_with fail
            go_roundw
            case rel => exact ⟨k + 1, _, by go_num, by omega, Lib.hid hbe6, by simpa using hown6, by simp; omega, HN⟩
            case measure => simp [intOf]; omega
          · have HN := Lib.hid (goS_bad _ acc ds k d _ HX.out HK.out hx)
            have hx2 : ((Tt.resV (Tt.code n.data.toList) v sh (1440 * d + e.start)).2 != 0) = true := by simpa [dayT] using hx
            clear hx; go_wp2_with fail
            go_ret2
            exact ⟨_, by rw [HN.out]; rfl, by rw [HN.out]; exact World.ownsRow_nil _ _ _ _, hbe3.trans (hbe5.mono hsz3)⟩
        · have hki : ¬ (k : Int) < (ds.length : Int) := by omega
          have HN := Lib.hid (goS_end _ acc ds k _ (by omega) HK.out)
          have hbe4 := hbe3.trans (hbr.out.mono hsz3)
          go_wp2_with fail
          go_ret2
          exact ⟨_, by rw [HN.out]; rfl, by rw [HN.out]; exact ownsRow_mono hown hsz3, hbe4⟩
  · have HR := Lib.hid (startsV_zone (Tt.code n.data.toList) v sh e hv)
    have HVV := Lib.hid (show (Tt.zoneV (Tt.code n.data.toList) v sh != 0) = true by simp [hv])
    clear hv; go_enter Tryz.func55, Tryz.ntmps55
    obtain ⟨f0, f1, f2⟩ := HF0.out.c
    go_wp2_with fail
    refine HV.out.mono ?_
    rintro x w0 ⟨rfl, hb0⟩; have hbe0 := below_then HBX.out hb0
    clear HV hb0 f0 f1 f2 HF0; have hvv := HVV.out; go_wp2_with fail
    go_ret2
    exact ⟨_, by rw [HR.out]; rfl, by rw [HR.out]; exact World.ownsRow_nil _ _ _ _, hbe0⟩

end Go.Proofs.YtageielcdebjlaaGreatDoor
