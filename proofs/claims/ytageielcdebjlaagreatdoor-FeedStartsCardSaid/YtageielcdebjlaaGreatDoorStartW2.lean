/- timetableref40.Fault, timetableref40.Starts: their contracts. -/
import Derived.Test.YtageielcdebjlaaGreatDoorZoneAll
import Derived.Test.YtageielcdebjlaaGreatDoorStartW
namespace Go.Proofs.YtageielcdebjlaaGreatDoor
open Go.RowKit

set_option maxHeartbeats 4000000 in
set_option maxRecDepth 100000 in
theorem fault118 (v : Int) (e : Ev) (B : Nat) (w : World) (ao ao' : Option Addr) (c c' : Nat) (hB : B ≤ w.heap.size) (hI : Ints B w ao e.days.ex) (hI' : Ints B w ao' e.days.xt) (hb : EvB e) (hu : e.uid.size ≤ 4611686018427387904) :
    Calls Tryz.prog 118 #[evVal e (.slice ao e.days.ex.length c) (.slice ao' e.days.xt.length c'), .int .i64 v] w fun x w' => x = .returned (.int .i64 (if rightB e.uid.data.toList = false then 4 else checkV e v)) ∧ Below w.heap.size w w' := by
  have S0 : EvBox w.heap.size e (.slice ao e.days.ex.length c) (.slice ao' e.days.xt.length c') (w.alloc (.cells (evCells e (.slice ao e.days.ex.length c) (.slice ao' e.days.xt.length c')) 82)) := heap_alloc_new w _
  have HS0 := Lib.hid S0
  have HI := Lib.hid hI
  have HI' := Lib.hid hI'
  have HC := Lib.hid (fault99 e v B)
  obtain ⟨R, hR⟩ : ∃ R : Int, R = if rightB e.uid.data.toList = false then 4 else checkV e v := ⟨_, rfl⟩
  rw [← hR]
  have HR := Lib.hid hR
  clear hI hI' S0 hR
  unfold evVal evCells
  unfold evCells at HS0
  go_enter Tryz.func118, Tryz.ntmps118
  have HC0 := (EvBox.c (e := e) HS0.out)
  obtain ⟨c0, c1, c2, c3, c4, c5, c6, c7, c8, c9, c10, c11, c12⟩ := HC0
  go_wp2_with fail
  refine (right98 e.uid _ hu).mono ?_
  rintro x w1 ⟨rfl, hb1⟩
  have hbe1 := below_then (below_box w _) hb1
  have HA1 := Lib.hid (EvBox.block (e := e) HS0.out (hb1.block _ (by simp)))
  clear hb1 c0 c1 c2 c3 c4 c5 c6 c7 c8 c9 c10 c11 c12
  obtain ⟨c0, c1, c2, c3, c4, c5, c6, c7, c8, c9, c10, c11, c12⟩ := HA1.out.c
  cases hr : rightB e.uid.data.toList
  · have HE := Lib.hid (HR.out.trans (if_pos hr))
    clear hr
    go_wp2_with fail
    go_ret
    exact ⟨ret_int HE.out.symm, hbe1⟩
  · have HE := Lib.hid (HR.out.trans (if_neg (by rw [hr]; simp)))
    clear hr
    go_wp2_with fail
    refine (HC.out _ ao ao' c c' (by have := hbe1.size; omega) (HI.out.below (hbe1.mono hB)) (HI'.out.below (hbe1.mono hB)) hb.ex hb.xt hb.summ hb.loc).mono ?_
    rintro x w2 ⟨rfl, hb2⟩
    have hbe2 := below_then hbe1 hb2
    go_wp2_with fail
    go_ret
    exact ⟨ret_int HE.out.symm, hbe2⟩

set_option maxHeartbeats 16000000 in
set_option maxRecDepth 100000 in
theorem starts56 (n : ByteArray) (v : Int) (sh : List (Int × Int)) (az : Option Addr) (cz : Nat) (e : Ev) (B : Nat) (w : World) (ao ao' : Option Addr) (c c' : Nat) (hB : B ≤ w.heap.size) (hI : Ints B w ao e.days.ex) (hI' : Ints B w ao' e.days.xt) (hb : EvB e) (hu : e.uid.size ≤ 4611686018427387904) (hE : Shs B w az sh) (hn : sh.length ≤ 4611686018427387903) :
    Calls Tryz.prog 56 #[evVal e (.slice ao e.days.ex.length c) (.slice ao' e.days.xt.length c'), .agg #[.string n, .int .i64 v, .slice az sh.length cz]] w fun x w' => ∃ u, x = .returned (.tuple #[u, .int .i64 (startsV (Tt.code n.data.toList) v sh e).2]) ∧ w'.ownsRow w.heap.size 3 1 u (startsV (Tt.code n.data.toList) v sh e).1.length ((startsV (Tt.code n.data.toList) v sh e).1.map (Value.int .i64)) ∧ Below w.heap.size w w' := by
  obtain ⟨i0, hi, hz0, hz1, hz2⟩ := info_parts infoInt
  have hbx := below_then (below_box w (.cells (evCells e (.slice ao e.days.ex.length c) (.slice ao' e.days.xt.length c')) 82)) (below_box _ (.cells #[.string n, .int .i64 v, .slice az sh.length cz] 50))
  have S0 : EvBox w.heap.size e (.slice ao e.days.ex.length c) (.slice ao' e.days.xt.length c') ((w.alloc (.cells (evCells e (.slice ao e.days.ex.length c) (.slice ao' e.days.xt.length c')) 82)).alloc (.cells #[.string n, .int .i64 v, .slice az sh.length cz] 50)) := (Lib.alloc_old _ _ _ (by simp)).trans (heap_alloc_new w _)
  have F0 : ZoneB (w.heap.size + 1) n v (.slice az sh.length cz) ((w.alloc (.cells (evCells e (.slice ao e.days.ex.length c) (.slice ao' e.days.xt.length c')) 82)).alloc (.cells #[.string n, .int .i64 v, .slice az sh.length cz] 50)) := by
    have := heap_alloc_new (w.alloc (.cells (evCells e (.slice ao e.days.ex.length c) (.slice ao' e.days.xt.length c')) 82)) (.cells #[.string n, .int .i64 v, .slice az sh.length cz] 50)
    simpa [ZoneB] using this
  have HS0 := Lib.hid S0
  have HF0 := Lib.hid F0
  have HV := Lib.hid (zone58 n v sh az cz B ((w.alloc (.cells (evCells e (.slice ao e.days.ex.length c) (.slice ao' e.days.xt.length c')) 82)).alloc (.cells #[.string n, .int .i64 v, .slice az sh.length cz] 50)) (by simp; omega) (hE.below (hbx.mono hB)) hn)
  have HE := Lib.hid hE
  have HI := Lib.hid hI
  have HI' := Lib.hid hI'
  have HBX := Lib.hid hbx
  have HRES := Lib.hid (resolve120 n v sh az cz B)
  have HC := Lib.hid (fault118 64 e B)
  clear hI hI' hE S0 F0 hbx
  unfold evCells at HV HS0 HF0 HBX
  unfold evVal evCells
  by_cases hv : Tt.zoneV (Tt.code n.data.toList) v sh = 0
  · have HVV := Lib.hid hv
    clear hv
    go_enter Tryz.func56, Tryz.ntmps56
    obtain ⟨f0, f1, f2⟩ := HF0.out.c
    go_wp2_with fail
    refine HV.out.mono ?_
    rintro x w0 ⟨rfl, hb0⟩
    rw [HVV.out]
    have hbe0 := below_then HBX.out hb0
    have HF := Lib.hid (ZoneB.block HF0.out (hb0.block _ (HF0.out.lt)))
    have HS := Lib.hid (EvBox.block (e := e) HS0.out (hb0.block _ (EvBox.lt (e := e) HS0.out)))
    clear HV hb0 f0 f1 f2 HF0 HS0 HBX
    obtain ⟨f0, f1, f2⟩ := HF.out.c
    obtain ⟨c0, c1, c2, c3, c4, c5, c6, c7, c8, c9, c10, c11, c12⟩ := HS.out.c
    go_wp2_with fail
    refine (HC.out w0 ao ao' c c' (by have := hbe0.size; omega) (HI.out.below (hbe0.mono hB)) (HI'.out.below (hbe0.mono hB)) hb hu).mono ?_
    rintro x w2 ⟨rfl, hb2⟩
    have hbe2 := below_then hbe0 hb2
    have HF2 := Lib.hid (HF.out.block (hb2.block _ HF.out.lt))
    have HS2 := Lib.hid (HS.out.block (hb2.block _ HS.out.lt))
    clear hb2 hbe0 HF HS f0 f1 f2 c0 c1 c2 c3 c4 c5 c6 c7 c8 c9 c10 c11 c12
    obtain ⟨f0, f1, f2⟩ := HF2.out.c
    obtain ⟨c0, c1, c2, c3, c4, c5, c6, c7, c8, c9, c10, c11, c12⟩ := HS2.out.c
    cases hr : rightB e.uid.data.toList
    · have HR := Lib.hid (startsV_event (Tt.code n.data.toList) v sh e HVV.out (.inl hr))
      clear hr
      go_wp2_with fail
      go_ret2
      exact ⟨_, by rw [HR.out]; rfl, by rw [HR.out]; exact World.ownsRow_nil _ _ _ _, hbe2⟩
    · have HU := Lib.hid hr
      rw [if_neg (by simp)]
      clear hr
      by_cases hcv : checkV e 64 = 0
      case neg =>
        have HR := Lib.hid (startsV_event (Tt.code n.data.toList) v sh e HVV.out (.inr hcv))
        have hcv2 : (checkV e 64 != 0) = true := by simp [hcv]
        clear hcv
        go_wp2_with fail
        go_ret2
        exact ⟨_, by rw [HR.out]; rfl, by rw [HR.out]; exact World.ownsRow_nil _ _ _ _, hbe2⟩
      obtain ⟨hs, s0, s1⟩ := checkV_zero e 64 hcv
      have HR := Lib.hid (startsV_days (Tt.code n.data.toList) v sh e HVV.out HU.out hcv)
      rw [hcv]
      have HDL := Lib.hid (days_len e.days hs)
      have HDB := Lib.hid (days_bounds e.days hs)
      clear hcv hs
      go_wp2_with fail
      refine (days119 e.days B _ hb.ex hb.xt ao ao' c c' (Nat.le_trans hB hbe2.size) (HI.out.below (hbe2.mono hB)) (HI'.out.below (hbe2.mono hB))).mono ?_
      rintro x w3 ⟨u, rfl, hown, hb3⟩
      have hbe3 := below_then hbe2 hb3
      have HF3 := Lib.hid (HF2.out.block (hb3.block _ HF2.out.lt))
      have HS3 := Lib.hid (HS2.out.block (hb3.block _ HS2.out.lt))
      clear hb3 hbe2 HF2 HS2 f0 f1 f2 c0 c1 c2 c3 c4 c5 c6 c7 c8 c9 c10 c11 c12
      obtain ⟨ad, cd, rfl, hID⟩ := row_ints hown
      have HID := Lib.hid hID
      clear hown hID
      obtain ⟨ds, hds⟩ : ∃ ds, ds = Tt.serDays e.days := ⟨_, rfl⟩
      rw [← hds] at HR HDL HDB HID ⊢
      clear hds
      go_wp2_with fail
      go_loopw [7, 9] (fun ov iv wr => ∃ (k : Nat) (acc : List Int), iv = .int .i64 k ∧ k ≤ ds.length ∧ Hid (Below w3.heap.size w3 wr) ∧ wr.ownsRow w3.heap.size 3 1 ov acc.length (acc.map (Value.int .i64)) ∧ acc.length ≤ k ∧ Hid (startsV (Tt.code n.data.toList) v sh e = goS (dayT (Tt.code n.data.toList) v sh e.start) acc (ds.drop k))) (fun _ iv _ => ds.length - (intOf iv).toNat)
      case atStart => exact ⟨0, [], by go_num, by omega, Lib.hid (Below.refl _ _), World.ownsRow_nil _ _ _ _, Nat.le_refl _, HR⟩
      case round =>
        obtain ⟨k, acc, rfl, hk, hbr, hown, hal, HK⟩ := hrel
        have hszr := hbr.out.size
        have hsz3 := hbe3.size
        have hdl := HDL.out
        have HFr := Lib.hid (HF3.out.block (hbr.out.block _ HF3.out.lt))
        have HSr := Lib.hid (HS3.out.block (hbr.out.block _ HS3.out.lt))
        by_cases hlt : k < ds.length
        · obtain ⟨d, hd⟩ : ∃ d, ds[k]? = some d := ⟨_, List.getElem?_eq_getElem hlt⟩
          obtain ⟨b, o, ha, hbb, hev⟩ := HID.out.form (by omega)
          have hki : (k : Int) < (ds.length : Int) := by omega
          have g0 := (hbr.out.cell (p := ⟨b, o + k, none⟩) (by simpa using hbb)).trans (hev k d hd)
          obtain ⟨d0, d1⟩ := HDB.out k d hd
          have HX := Lib.hid hd
          subst ha
          clear hev hd
          obtain ⟨f0, f1, f2⟩ := HFr.out.c
          have c9 := HSr.out.c.c9
          go_wp2_with fail
          have hk0 : (0 : Int) ≤ (k : Int) := by omega
          have hsD : 1440 * d + e.start ≤ 1000000000 := by omega
          have hsD2 : -1000000000 ≤ 1440 * d + e.start := by omega
          have hBr : B ≤ wr.heap.size := by omega
          have hEr := (HE.out.below (hbe3.mono hB)).below ((below_drw hbr.out).mono (by omega))
          have hwm : IntKind.i64.wrap (1440 * d) = 1440 * d := by rw [IntKind.wrap_i64]; omega
          have hwa : IntKind.i64.wrap (1440 * d + e.start) = 1440 * d + e.start := by rw [IntKind.wrap_i64]; omega
          have HER := Lib.hid hEr
          have hlr := HFr.out.lt
          have HKP : Hid (∀ W' : World, Below wr.heap.size wr W' → W'.cell? ⟨w.heap.size + 1, 0, none⟩ = some (.string n) ∧ W'.cell? ⟨w.heap.size + 1, 1, none⟩ = some (.int .i64 v) ∧ W'.cell? ⟨w.heap.size + 1, 2, none⟩ = some (.slice az sh.length cz) ∧ W'.cell? ⟨b, o + k, none⟩ = some (.int .i64 d) ∧ W'.cell? ⟨w.heap.size, 9, none⟩ = some (.int .i64 e.start)) := Lib.hid fun W' hW => ⟨(hW.cell (p := ⟨_, _, none⟩) (by simp; omega)).trans f0, (hW.cell (p := ⟨_, _, none⟩) (by simp; omega)).trans f1, (hW.cell (p := ⟨_, _, none⟩) (by simp; omega)).trans f2, (hW.cell (p := ⟨_, _, none⟩) (by simp; omega)).trans g0, (hW.cell (p := ⟨_, _, none⟩) (by simp; omega)).trans c9⟩
          clear hEr hlr
          go_region_held3 (fun W' => W'.cell? ⟨w.heap.size + 1, 0, none⟩ = some (.string n) ∧ W'.cell? ⟨w.heap.size + 1, 1, none⟩ = some (.int .i64 v) ∧ W'.cell? ⟨w.heap.size + 1, 2, none⟩ = some (.slice az sh.length cz) ∧ W'.cell? ⟨b, o + k, none⟩ = some (.int .i64 d) ∧ W'.cell? ⟨w.heap.size, 9, none⟩ = some (.int .i64 e.start)) (first | exact HKP.out _ (Below.refl _ _) | exact HKP.out _ (below_drw (Below.refl _ _)) | exact HKP.out _ ((below_drw (Below.refl _ _)).trans hb5)) (first | (go_at_call 120; refine (HRES.out (1440 * d + e.start) wr.drew hBr HER.out hn hsD2 hsD).mono ?_; rintro x w5 ⟨rfl, hb5⟩))
          clear hwm hwa hk0 hsD hsD2
          have hbe5 : Below w3.heap.size w3 w5 := (below_drw hbr.out).trans (hb5.mono (by simpa using hszr))
          have hown5 := ownsRow_below (ownsRow_below hown (below_drw (Below.refl _ _))) hb5
          clear hb5 f0 f1 f2 c9 g0 hown hbr HFr HSr
          by_cases hx : (dayT (Tt.code n.data.toList) v sh e.start d).2 = 0
          · have HN := Lib.hid (goS_step _ acc ds k d _ HX.out HK.out hx)
            obtain ⟨y, hy⟩ : ∃ y, y = dayT (Tt.code n.data.toList) v sh e.start d := ⟨_, rfl⟩
            rw [← hy] at hx HN
            rw [show Tt.resV (Tt.code n.data.toList) v sh (1440 * d + e.start) = y from hy.symm, hx]
            obtain ⟨y1, y2⟩ := y
            clear hy hx
            simp only at HN ⊢
            have hsz5 := hbe5.size
            go_wp2_with (at_builtin; refine wpList_append_own _ rfl (.tmp 45) (.tmp 47) 27 rfl w3.heap.size 3 i0 (.int .i64 0) 1 8 Tryz.underlying27 hi hz0 hz1 hz2 rfl (by decide) _ _ _ rfl (hown5.alloc _) ⟨w5.heap.size, 0, none⟩ 1 1 [.int .i64 y1] rfl rfl (cell_one _ _ _) (by intro u hu; simp at hu; subst hu; rfl) (by unfold maxLen; omega) (by omega) (by simp; omega) ?_)
            intro v' w6 hown6 hgrow _
            have hbl : Below w3.heap.size w5 w6 := ((Below.refl _ w5).alloc (by omega) _).grown hgrow (by simp; omega) (fun k hk => (hown5.lt k hk).1)
            have hbe6 := hbe5.trans hbl
            clear hgrow hown5 hbl hbe5 hsz5
            go_wp2_with fail
            go_roundw
            case rel => exact ⟨k + 1, _, by go_num, by omega, Lib.hid hbe6, by simpa using hown6, by simp; omega, HN⟩
            case measure => simp [intOf]; omega
          · have HN := Lib.hid (goS_bad _ acc ds k d _ HX.out HK.out hx)
            have hx2 : ((Tt.resV (Tt.code n.data.toList) v sh (1440 * d + e.start)).2 != 0) = true := by simpa [dayT] using hx
            clear hx
            go_wp2_with fail
            go_ret2
            exact ⟨_, by rw [HN.out]; rfl, by rw [HN.out]; exact World.ownsRow_nil _ _ _ _, hbe3.trans (hbe5.mono hsz3)⟩
        · have hki : ¬ (k : Int) < (ds.length : Int) := by omega
          have HN := Lib.hid (goS_end _ acc ds k _ (by omega) HK.out)
          have hbe4 := hbe3.trans (hbr.out.mono hsz3)
          go_wp2_with fail
          go_ret2
          exact ⟨_, by rw [HN.out]; rfl, by rw [HN.out]; exact ownsRow_mono hown hsz3, hbe4⟩
  · have HR := Lib.hid (startsV_zone (Tt.code n.data.toList) v sh e hv)
    have HVV := Lib.hid (show (Tt.zoneV (Tt.code n.data.toList) v sh != 0) = true by simp [hv])
    clear hv
    go_enter Tryz.func56, Tryz.ntmps56
    obtain ⟨f0, f1, f2⟩ := HF0.out.c
    go_wp2_with fail
    refine HV.out.mono ?_
    rintro x w0 ⟨rfl, hb0⟩
    have hbe0 := below_then HBX.out hb0
    clear HV hb0 f0 f1 f2 HF0
    have hvv := HVV.out
    go_wp2_with fail
    go_ret2
    exact ⟨_, by rw [HR.out]; rfl, by rw [HR.out]; exact World.ownsRow_nil _ _ _ _, hbe0⟩

end Go.Proofs.YtageielcdebjlaaGreatDoor
