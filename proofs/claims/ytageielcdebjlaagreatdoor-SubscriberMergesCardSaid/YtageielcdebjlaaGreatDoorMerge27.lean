/- timetableref41.Merge: its contract. -/
import Derived.Test.YtageielcdebjlaaGreatDoorPk22
import Derived.Test.YtageielcdebjlaaGreatDoorPut85
import Derived.Test.YtageielcdebjlaaGreatDoorPk13
namespace Go.Proofs.YtageielcdebjlaaGreatDoor
open Go.RowKit

/-- What the reference's Merge leaves. -/
def MergedR (rv tag : Int) (es : List Ev) (n : ByteArray) (v : Int) (fs : List Ev) (w : World) (x : Ending) (w' : World) : Prop :=
  ∃ (v' tag' c : Int) (pu : Option Addr) (cu : Nat) (us : List Ev) (pn : Option Addr) (cn : Nat) (ns : List Nt),
    x = .returned (.tuple #[.agg #[.int .i64 v', .int .i64 tag', .slice pu us.length cu], .slice pn ns.length cn, .int .i64 c]) ∧
    (v', tag', us, ns, c) = mergeV rv tag es n v fs ∧ Evs w'.heap.size w' pu us ∧ RowN w.heap.size w' (.slice pn ns.length cn) ns ∧ Below w.heap.size w w'

set_option maxHeartbeats 16000000 in
set_option maxRecDepth 100000 in
theorem merge27 (rv tag : Int) (ar : Option Addr) (cr : Nat) (rs : List (Ev × Value × Value)) (fn : ByteArray) (fv : Int) (af : Option Addr) (cf : Nat) (fs : List (Ev × Value × Value)) (w : World) (hR : Seg w.heap.size w ar rs) (hF : Seg w.heap.size w af fs)
    (hrn : ar = none → cr = 0) (hrc : rs.length ≤ cr) (hrl : rs.length ≤ 1000000000) (hfl : fs.length ≤ 1000000000) :
    Calls Tryz.prog 27 #[.agg #[.int .i64 rv, .int .i64 tag, .slice ar rs.length cr], .agg #[.string fn, .int .i64 fv, .slice af fs.length cf]] w (MergedR rv tag (rs.map (·.1)) fn fv (fs.map (·.1)) w) := by
  obtain ⟨i0, hi, hz0, hz1, hz2⟩ := info_parts infoNt
  obtain ⟨w0, hw0⟩ : ∃ w0, w0 = ((w.alloc (.cells #[.int .i64 rv, .int .i64 tag, .slice ar rs.length cr] 24)).alloc (.cells #[.string fn, .int .i64 fv, .slice af fs.length cf] 26)).alloc (.cells #[.int .i64 0, .int .i64 0, .slice none 0 0] 24) := ⟨_, rfl⟩
  have HRB := Lib.hid (show Blk w.heap.size #[.int .i64 rv, .int .i64 tag, .slice ar rs.length cr] 24 w0 from by rw [hw0]; exact ((Blk.new w _ _).alloc _).alloc _)
  have HFB := Lib.hid (show Blk (w.heap.size + 1) #[.string fn, .int .i64 fv, .slice af fs.length cf] 26 w0 from by rw [hw0]; exact (Blk.new' (g := w.heap.size + 1) _ _ _ (by simp)).alloc _)
  have HO := Lib.hid (show Blk (w.heap.size + 2) #[.int .i64 0, .int .i64 0, .slice none 0 0] 24 w0 from by rw [hw0]; exact Blk.new' (g := w.heap.size + 2) _ _ _ (by simp))
  have HL := Lib.hid (show Below w.heap.size w w0 from by rw [hw0]; exact ((below_box w _).alloc (by simp) _).alloc (by simp; omega) _)
  have hs0 : w.heap.size + 3 ≤ w0.heap.size := by rw [hw0]; simp
  have HR := Lib.hid hR
  have HF := Lib.hid hF
  obtain ⟨n, hn⟩ : ∃ n, n = rs.length := ⟨_, rfl⟩
  obtain ⟨m, hm⟩ : ∃ m, m = fs.length := ⟨_, rfl⟩
  obtain ⟨es, hes⟩ : ∃ es, es = rs.map (·.1) := ⟨_, rfl⟩
  obtain ⟨fes, hfes⟩ : ∃ fes, fes = fs.map (·.1) := ⟨_, rfl⟩
  have HLN := Lib.hid (show es.length = n from by simp [hn, hes])
  have HLM := Lib.hid (show fes.length = m from by simp [hm, hfes])
  have HV1 : Hid (∀ W, Below w.heap.size w W → Calls Tryz.prog 25 #[.agg #[.int .i64 rv, .int .i64 tag, .slice ar n cr]] W fun e w' => e = .returned (.bool (rdOk rv es)) ∧ Below W.heap.size W w') := Lib.hid (fun W hW => by
    have h := valid25 rv tag es ar cr w.heap.size W hW.size (by rw [hes]; exact (HR.out.below hW).evs) (by rw [HLN.out]; omega)
    rw [HLN.out] at h
    exact h)
  have HV2 : Hid (∀ W, Below w.heap.size w W → Calls Tryz.prog 47 #[.agg #[.string fn, .int .i64 fv, .slice af m cf]] W fun e w' => e = .returned (.int .i64 (feedV fn fv fes)) ∧ Below W.heap.size W w') := Lib.hid (fun W hW => by
    have h := valid47 fn fv fes af cf w.heap.size W hW.size (by rw [hfes]; exact (HF.out.below hW).evs) (by rw [HLM.out]; omega)
    rw [HLM.out] at h
    exact h)
  rw [← hes, ← hfes, ← hn, ← hm]
  rw [← hn, ← hm] at hw0
  rw [← hn] at HRB hrl hrc
  rw [← hm] at HFB hfl
  have Hn := Lib.hid hn
  have Hm := Lib.hid hm
  have Hes := Lib.hid hes
  have Hfes := Lib.hid hfes
  have HRN := Lib.hid hrn
  clear hR hF hn hm hes hfes hrn
  have y0 : w0.cell? ⟨w.heap.size, 0, none⟩ = some (.int .i64 rv) := HRB.out.cell 0
  have y1 : w0.cell? ⟨w.heap.size, 1, none⟩ = some (.int .i64 tag) := HRB.out.cell 1
  have y2 : w0.cell? ⟨w.heap.size, 2, none⟩ = some (.slice ar n cr) := HRB.out.cell 2
  go_enter Tryz.func27, Tryz.ntmps27
  go_upto_region 1 with (fail)
  rw [← hw0]
  clear hw0
  go_wp2_with fail
  refine (HV1.out _ HL.out).mono ?_
  rintro e w1 ⟨rfl, hb1⟩
  have hs1 := hb1.size
  have HRB1 := Lib.hid (HRB.out.below hb1 HRB.out.lt)
  have HFB1 := Lib.hid (HFB.out.below hb1 HFB.out.lt)
  have HO1 := Lib.hid (HO.out.below hb1 HO.out.lt)
  have HL1 := Lib.hid (HL.out.trans (hb1.mono (by omega)))
  clear hb1 y0 y1 y2 HRB HFB HO HL HV1
  by_cases hok : rdOk rv es = false
  · have HM : Hid (mergeV rv tag es fn fv fes = (0, 0, [], [], 1)) := Lib.hid (by unfold mergeV; rw [if_pos hok])
    have hnk : (!rdOk rv es) = true := by rw [hok]; rfl
    have r0 : w1.cell? ⟨w.heap.size + 2, 0, none⟩ = some (.int .i64 0) := HO1.out.cell 0
    have r1 : w1.cell? ⟨w.heap.size + 2, 1, none⟩ = some (.int .i64 0) := HO1.out.cell 1
    have r2 : w1.cell? ⟨w.heap.size + 2, 2, none⟩ = some (.slice none 0 0) := HO1.out.cell 2
    have z0 := HO1.out.frozen 0
    have z1 := HO1.out.frozen 1
    have z2 := HO1.out.frozen 2
    go_wp2_with fail
    have B3 := ((HO1.out.set 0 (.int .i64 0)).set 1 (.int .i64 0)).set 2 (.slice none 0 0)
    have L3 := ((HL1.out.setCell (show w.heap.size ≤ (⟨w.heap.size + 2, 0, none⟩ : Addr).block from by show w.heap.size ≤ w.heap.size + 2; omega) (.int .i64 0)).setCell (show w.heap.size ≤ (⟨w.heap.size + 2, 1, none⟩ : Addr).block from by show w.heap.size ≤ w.heap.size + 2; omega) (.int .i64 0)).setCell (show w.heap.size ≤ (⟨w.heap.size + 2, 2, none⟩ : Addr).block from by show w.heap.size ≤ w.heap.size + 2; omega) (.slice none 0 0)
    obtain ⟨W, hW⟩ : ∃ W, W = ((w1.setCell ⟨w.heap.size + 2, 0, none⟩ (.int .i64 0)).setCell ⟨w.heap.size + 2, 1, none⟩ (.int .i64 0)).setCell ⟨w.heap.size + 2, 2, none⟩ (.slice none 0 0) := ⟨_, rfl⟩
    rw [← hW] at B3 L3 ⊢
    clear hW r0 r1 r2 z0 z1 z2
    have r0 : W.cell? ⟨w.heap.size + 2, 0, none⟩ = some (.int .i64 0) := B3.cell 0
    have r1 : W.cell? ⟨w.heap.size + 2, 1, none⟩ = some (.int .i64 0) := B3.cell 1
    have r2 : W.cell? ⟨w.heap.size + 2, 2, none⟩ = some (.slice none 0 0) := B3.cell 2
    refine bodyPost_ret (v := .tuple #[.agg #[.int .i64 0, .int .i64 0, .slice none 0 0], .slice none 0 0, .int .i64 1]) (by simp [results, Tryz.results27, go_sem, r0, r1, r2]) rfl ?_
    exact ⟨0, 0, 1, none, 0, [], none, 0, [], rfl, HM.out.symm, (.inl rfl), RowN.nil _ _, L3⟩
  · have hok : rdOk rv es = true := by simpa using hok
    have hnk : (!rdOk rv es) = false := by rw [hok]; rfl
    have HOK := Lib.hid hok
    have y0 : w1.cell? ⟨w.heap.size + 1, 0, none⟩ = some (.string fn) := HFB1.out.cell 0
    have y1 : w1.cell? ⟨w.heap.size + 1, 1, none⟩ = some (.int .i64 fv) := HFB1.out.cell 1
    have y2 : w1.cell? ⟨w.heap.size + 1, 2, none⟩ = some (.slice af m cf) := HFB1.out.cell 2
    go_wp2_with fail
    refine (HV2.out _ HL1.out).mono ?_
    rintro e w2 ⟨rfl, hb2⟩
    have hs2 := hb2.size
    have HRB2 := Lib.hid (HRB1.out.below hb2 HRB1.out.lt)
    have HFB2 := Lib.hid (HFB1.out.below hb2 HFB1.out.lt)
    have HO2 := Lib.hid (HO1.out.below hb2 HO1.out.lt)
    have HL2 := Lib.hid (HL1.out.trans (hb2.mono (by omega)))
    clear hb2 y0 y1 y2 HRB1 HFB1 HO1 HL1 HV2 hnk
    obtain ⟨FV, hFV⟩ : ∃ FV, FV = feedV fn fv fes := ⟨_, rfl⟩
    have HFV := Lib.hid hFV
    rw [← hFV]
    clear hFV
    by_cases hfv : FV ≠ 0
    · have HM : Hid (mergeV rv tag es fn fv fes = (0, 0, [], [], FV)) := Lib.hid (by unfold mergeV; rw [if_neg (by rw [HOK.out]; simp), ← HFV.out, if_pos hfv])
      have r0 : w2.cell? ⟨w.heap.size + 2, 0, none⟩ = some (.int .i64 0) := HO2.out.cell 0
      have r1 : w2.cell? ⟨w.heap.size + 2, 1, none⟩ = some (.int .i64 0) := HO2.out.cell 1
      have r2 : w2.cell? ⟨w.heap.size + 2, 2, none⟩ = some (.slice none 0 0) := HO2.out.cell 2
      have z0 := HO2.out.frozen 0
      have z1 := HO2.out.frozen 1
      have z2 := HO2.out.frozen 2
      go_wp2_with fail
      have B3 := ((HO2.out.set 0 (.int .i64 0)).set 1 (.int .i64 0)).set 2 (.slice none 0 0)
      have L3 := ((HL2.out.setCell (show w.heap.size ≤ (⟨w.heap.size + 2, 0, none⟩ : Addr).block from by show w.heap.size ≤ w.heap.size + 2; omega) (.int .i64 0)).setCell (show w.heap.size ≤ (⟨w.heap.size + 2, 1, none⟩ : Addr).block from by show w.heap.size ≤ w.heap.size + 2; omega) (.int .i64 0)).setCell (show w.heap.size ≤ (⟨w.heap.size + 2, 2, none⟩ : Addr).block from by show w.heap.size ≤ w.heap.size + 2; omega) (.slice none 0 0)
      obtain ⟨W, hW⟩ : ∃ W, W = ((w2.setCell ⟨w.heap.size + 2, 0, none⟩ (.int .i64 0)).setCell ⟨w.heap.size + 2, 1, none⟩ (.int .i64 0)).setCell ⟨w.heap.size + 2, 2, none⟩ (.slice none 0 0) := ⟨_, rfl⟩
      rw [← hW] at B3 L3 ⊢
      clear hW r0 r1 r2 z0 z1 z2
      have r0 : W.cell? ⟨w.heap.size + 2, 0, none⟩ = some (.int .i64 0) := B3.cell 0
      have r1 : W.cell? ⟨w.heap.size + 2, 1, none⟩ = some (.int .i64 0) := B3.cell 1
      have r2 : W.cell? ⟨w.heap.size + 2, 2, none⟩ = some (.slice none 0 0) := B3.cell 2
      refine bodyPost_ret (v := .tuple #[.agg #[.int .i64 0, .int .i64 0, .slice none 0 0], .slice none 0 0, .int .i64 FV]) (by simp [results, Tryz.results27, go_sem, r0, r1, r2]) rfl ?_
      exact ⟨0, 0, FV, none, 0, [], none, 0, [], rfl, HM.out.symm, (.inl rfl), RowN.nil _ _, L3⟩
    · have hfv : FV = 0 := Decidable.of_not_not hfv
      subst hfv
      have y0 : w2.cell? ⟨w.heap.size, 0, none⟩ = some (.int .i64 rv) := HRB2.out.cell 0
      have y1 : w2.cell? ⟨w.heap.size, 1, none⟩ = some (.int .i64 tag) := HRB2.out.cell 1
      have y2 : w2.cell? ⟨w.heap.size, 2, none⟩ = some (.slice ar n cr) := HRB2.out.cell 2
      have f1 : w2.cell? ⟨w.heap.size + 1, 1, none⟩ = some (.int .i64 fv) := HFB2.out.cell 1
      by_cases hle : fv ≤ rv
      · have HM : Hid (mergeV rv tag es fn fv fes = (rv, tag, es, [], 0)) := Lib.hid (by unfold mergeV; rw [if_neg (by rw [HOK.out]; simp), if_neg (by rw [← HFV.out]; simp), if_pos (by omega)])
        have r0 : w2.cell? ⟨w.heap.size + 2, 0, none⟩ = some (.int .i64 0) := HO2.out.cell 0
        have r1 : w2.cell? ⟨w.heap.size + 2, 1, none⟩ = some (.int .i64 0) := HO2.out.cell 1
        have r2 : w2.cell? ⟨w.heap.size + 2, 2, none⟩ = some (.slice none 0 0) := HO2.out.cell 2
        have z0 := HO2.out.frozen 0
        have z1 := HO2.out.frozen 1
        have z2 := HO2.out.frozen 2
        go_wp2_with fail
        have HEV := Lib.hid (show Evs w.heap.size w ar es from by rw [Hes.out]; exact HR.out.evs)
        have B3 := ((HO2.out.set 0 (.int .i64 rv)).set 1 (.int .i64 tag)).set 2 (.slice ar n cr)
        have L3 := ((HL2.out.setCell (show w.heap.size ≤ (⟨w.heap.size + 2, 0, none⟩ : Addr).block from by show w.heap.size ≤ w.heap.size + 2; omega) (.int .i64 rv)).setCell (show w.heap.size ≤ (⟨w.heap.size + 2, 1, none⟩ : Addr).block from by show w.heap.size ≤ w.heap.size + 2; omega) (.int .i64 tag)).setCell (show w.heap.size ≤ (⟨w.heap.size + 2, 2, none⟩ : Addr).block from by show w.heap.size ≤ w.heap.size + 2; omega) (.slice ar n cr)
        obtain ⟨W, hW⟩ : ∃ W, W = ((w2.setCell ⟨w.heap.size + 2, 0, none⟩ (.int .i64 rv)).setCell ⟨w.heap.size + 2, 1, none⟩ (.int .i64 tag)).setCell ⟨w.heap.size + 2, 2, none⟩ (.slice ar n cr) := ⟨_, rfl⟩
        rw [← hW] at B3 L3 ⊢
        clear hW r0 r1 r2 z0 z1 z2
        have r0 : W.cell? ⟨w.heap.size + 2, 0, none⟩ = some (.int .i64 rv) := B3.cell 0
        have r1 : W.cell? ⟨w.heap.size + 2, 1, none⟩ = some (.int .i64 tag) := B3.cell 1
        have r2 : W.cell? ⟨w.heap.size + 2, 2, none⟩ = some (.slice ar n cr) := B3.cell 2
        refine bodyPost_ret (v := .tuple #[.agg #[.int .i64 rv, .int .i64 tag, .slice ar n cr], .slice none 0 0, .int .i64 0]) (by simp [results, Tryz.results27, go_sem, r0, r1, r2]) rfl ?_
        exact ⟨rv, tag, 0, ar, cr, es, none, 0, [], by rw [HLN.out]; rfl, HM.out.symm, (HEV.out.below L3).mono L3.size, RowN.nil _ _, L3⟩
      · have hls : n ≤ 256 ∧ m ≤ 256 ∧ 0 ≤ fv := by
          have h1 := (rdOk_iff rv es).1 HOK.out
          have h2 := feedV_ok HFV.out.symm
          rw [HLN.out] at h1
          rw [HLM.out] at h2
          omega
        obtain ⟨S, hS⟩ : ∃ S, S = w2.heap.size := ⟨_, rfl⟩
        obtain ⟨w3, hw3⟩ : ∃ w3, w3 = w2.alloc (.cells #[.int .i64 fv, .int .i64 tag, .slice ar n cr] 24) := ⟨_, rfl⟩
        have HB3 := Lib.hid (show Blk S #[.int .i64 fv, .int .i64 tag, .slice ar n cr] 24 w3 from by rw [hw3, hS]; exact Blk.new w2 _ _)
        have HO3 := Lib.hid (show Blk (w.heap.size + 2) #[.int .i64 0, .int .i64 0, .slice none 0 0] 24 w3 from by rw [hw3]; exact HO2.out.alloc _)
        have HFB3 := Lib.hid (show Blk (w.heap.size + 1) #[.string fn, .int .i64 fv, .slice af m cf] 26 w3 from by rw [hw3]; exact HFB2.out.alloc _)
        have HL3 := Lib.hid (show Below w.heap.size w w3 from by rw [hw3]; exact HL2.out.alloc (by omega) _)
        have hNS : w.heap.size ≤ S := by omega
        have hNS2 : w.heap.size + 3 ≤ S := by omega
        go_upto_region 10 with (fail)
        rw [← hw3, ← hS]
        clear hw3 hS y0 y1 y2 f1 HRB2 HFB2 HO2 HL2
        go_wp2_with fail
        go_loopw [8, 10] (fun s8 iv wr => ∃ (k : Nat) (ao : Option Addr) (c q : Nat) (ts : List (Ev × Value × Value)) (pn : Option Addr) (cn : Nat) (ns : List Nt), s8 = .slice pn ns.length cn ∧ iv = .int .i64 k ∧ k ≤ m ∧ Hid (q = ts.length) ∧ Hid (Blk S #[.int .i64 fv, .int .i64 tag, .slice ao q c] 24 wr) ∧ Hid (Blk (w.heap.size + 2) #[.int .i64 0, .int .i64 0, .slice none 0 0] 24 wr) ∧ Hid (Blk (w.heap.size + 1) #[.string fn, .int .i64 fv, .slice af m cf] 26 wr) ∧ Hid (Lies w.heap.size w wr ao c ts) ∧ Hid (RowN w.heap.size wr (.slice pn ns.length cn) ns) ∧ Hid ((ts.map (·.1), ns) = mrg es (fes.take k)) ∧ Hid (Below w.heap.size w wr)) (fun _ iv _ => m - (intOf iv).toNat)
        case atStart => exact ⟨0, ar, cr, n, rs, none, 0, [], rfl, rfl, Nat.zero_le _, Hn, HB3, HO3, HFB3, Lib.hid ⟨HRN.out, by rw [← Hn.out]; exact hrc, HR.out.ref, .inl HR.out⟩, Lib.hid (RowN.nil _ _), Lib.hid (by rw [← Hes.out]; rfl), HL3⟩
        case round =>
          clear HB3 HO3 HFB3 HL3
          obtain ⟨k, hrel⟩ := hrel
          obtain ⟨ao, hrel⟩ := hrel
          obtain ⟨c, hrel⟩ := hrel
          obtain ⟨q, hrel⟩ := hrel
          obtain ⟨ts, hrel⟩ := hrel
          obtain ⟨pn, hrel⟩ := hrel
          obtain ⟨cn, hrel⟩ := hrel
          obtain ⟨ns, rfl, rfl, hk, HQ0, HB, HO, HFB, HT, HNt, HM, HL⟩ := hrel
          have hml := mrg_len es fes k (by rw [HLM.out]; exact hk)
          rw [← HM.out, HLN.out] at hml
          have HQ := Lib.hid (show q = ts.length ∧ q ≤ 600 from ⟨HQ0.out, by have h := hml.1; simp only [List.length_map] at h; rw [← HQ0.out] at h; omega⟩)
          have HNL := Lib.hid (show ns.length ≤ 600 from by have h := hml.2; simp only at h; omega)
          clear hml HQ0
          have hNr : w.heap.size ≤ wr.heap.size := HL.out.size
          have hSr : S < wr.heap.size := HB.out.lt
          have f2 : wr.cell? ⟨w.heap.size + 1, 2, none⟩ = some (.slice af m cf) := HFB.out.cell 2
          by_cases hlt : k < m
          · have hlti : (k : Int) < m := by omega
            obtain ⟨t, ht⟩ : ∃ t, fs[k]? = some t := ⟨_, List.getElem?_eq_getElem (by rw [← Hm.out]; exact hlt)⟩
            obtain ⟨e, va, vb⟩ := t
            obtain ⟨bf, of, haf, hbf, hcf⟩ : ∃ b o, af = some ⟨b, o, none⟩ ∧ b < w.heap.size ∧ ∀ (j : Nat) (u : Value), (tCells fs)[j]? = some u → w.cell? ⟨b, o + j, none⟩ = some u := by
              rcases HF.out.at' with h | h
              · rw [h] at ht; simp at ht
              · exact h
            subst haf
            have hev := (seg_c hcf k _ ht).below hbf HL.out
            have HRE0 := HF.out.ref _ (List.mem_of_getElem? ht)
            obtain ⟨_, ⟨pe, ke, hva, _⟩, ⟨pf, kf, hvb, _⟩⟩ := id HRE0
            simp only at hva hvb
            subst hva
            subst hvb
            have HRE := Lib.hid HRE0
            have HFK := Lib.hid (show fes[k]? = some e from by rw [Hfes.out, List.getElem?_map, ht]; rfl)
            clear HRE0 ht hcf
            obtain ⟨c0, c1, c2, c3, c4, c5, c6, c7, c8, c9, c10, c11, c12⟩ := hev
            simp only at c0 c1 c2 c3 c4 c5 c6 c7 c8 c9 c10 c11 c12
            obtain ⟨X, hX⟩ : ∃ X, X = (wr.alloc (.cells #[.string e.uid, .int .i64 e.seq, .bool e.canc, .int .i64 e.days.first, .int .i64 e.days.last, .int .i64 e.days.every, .int .i64 e.days.wd, .slice pe e.days.ex.length ke, .slice pf e.days.xt.length kf, .int .i64 e.start, .int .i64 e.mins, .string e.summ, .string e.loc] 82)).alloc (.cells #[.string ⟨#[]⟩, .int .i64 0, .bool false, .int .i64 0, .int .i64 0, .int .i64 0, .int .i64 0, .slice none 0 0, .slice none 0 0, .int .i64 0, .int .i64 0, .string ⟨#[]⟩, .string ⟨#[]⟩] 82) := ⟨_, rfl⟩
            have HXE := Lib.hid (show Blk wr.heap.size #[.string e.uid, .int .i64 e.seq, .bool e.canc, .int .i64 e.days.first, .int .i64 e.days.last, .int .i64 e.days.every, .int .i64 e.days.wd, .slice pe e.days.ex.length ke, .slice pf e.days.xt.length kf, .int .i64 e.start, .int .i64 e.mins, .string e.summ, .string e.loc] 82 X from by rw [hX]; exact (Blk.new wr _ _).alloc _)
            have HXD := Lib.hid (show Blk (wr.heap.size + 1) #[.string ⟨#[]⟩, .int .i64 0, .bool false, .int .i64 0, .int .i64 0, .int .i64 0, .int .i64 0, .slice none 0 0, .slice none 0 0, .int .i64 0, .int .i64 0, .string ⟨#[]⟩, .string ⟨#[]⟩] 82 X from by rw [hX]; exact Blk.new' _ _ _ (by simp))
            have HX := Lib.hid (show Below wr.heap.size wr X from by rw [hX]; exact (below_box wr _).alloc (by simp) _)
            go_upto_region 15 with (fail)
            rw [← hX]
            clear hX f2 c0 c1 c2 c3 c4 c5 c6 c7 c8 c9 c10 c11 c12
            have hsx := HX.out.size
            obtain ⟨F, hFd⟩ : ∃ F, F = findFrom e.uid (ts.map (·.1)) 0 := ⟨_, rfl⟩
            have HFd := Lib.hid hFd
            have HC : Hid (Calls Tryz.prog 84 #[.slice ao q c, .string e.uid] X fun e w' => e = .returned (.int .i64 F) ∧ w' = X) := Lib.hid (by
              have h := find84 e.uid (ts.map (·.1)) ao c X.heap.size X ((HT.out.made HX.out).seg (HL.out.trans (HX.out.mono hNr)) (by omega)).evs (by rw [List.length_map, ← HQ.out.1]; have := HQ.out.2; omega)
              rw [List.length_map, ← HQ.out.1, ← HFd.out] at h
              exact h)
            clear hFd
            have s2 : X.cell? ⟨S, 2, none⟩ = some (.slice ao q c) := (HB.out.below HX.out HB.out.lt).cell 2
            have y0 : X.cell? ⟨wr.heap.size, 0, none⟩ = some (.string e.uid) := HXE.out.cell 0
            go_wp2_with fail
            refine HC.out.mono ?_
            rintro x x1 ⟨rfl, hw⟩
            rw [hw]
            clear hw x1 HC
            by_cases hF0 : 0 ≤ F
            · obtain ⟨j, o, hj, ho⟩ := findFrom_some e.uid (ts.map (·.1)) 0 (Int.le_refl _) (by rw [← HFd.out]; exact hF0)
              rw [← HFd.out, Int.zero_add] at hj
              subst hj
              have HFF := Lib.hid HFd.out.symm
              have HFO := Lib.hid ho
              obtain ⟨t, ht, hto⟩ : ∃ t, ts[j]? = some t ∧ t.1 = o := by
                rw [List.getElem?_map] at ho
                cases h2 : ts[j]? with
                | none => rw [h2] at ho; cases ho
                | some t => rw [h2] at ho; exact ⟨t, rfl, by simpa using ho⟩
              obtain ⟨o2, va, vb⟩ := t
              simp only at hto
              subst hto
              have hjq : j < q := by rw [HQ.out.1]; exact (List.getElem?_eq_some_iff.1 ht).1
              have hjqi : (j : Int) < q := by omega
              have hsg := (HT.out.made HX.out).seg (HL.out.trans (HX.out.mono hNr)) (by omega)
              obtain ⟨bo, oo, hao, hbo, hco⟩ : ∃ b o, ao = some ⟨b, o, none⟩ ∧ b < X.heap.size ∧ ∀ (j : Nat) (u : Value), (tCells ts)[j]? = some u → X.cell? ⟨b, o + j, none⟩ = some u := by
                rcases hsg.at' with h | h
                · rw [h] at ht; simp at ht
                · exact h
              subst hao
              have hev := seg_c hco j _ ht
              obtain ⟨_, ⟨po, ko, hva, _⟩, ⟨pp, kp, hvb, _⟩⟩ := HT.out.ref _ (List.mem_of_getElem? ht)
              simp only at hva hvb
              subst hva
              subst hvb
              clear ho ht hco hsg
              obtain ⟨c0, c1, c2, c3, c4, c5, c6, c7, c8, c9, c10, c11, c12⟩ := hev
              simp only at c0 c1 c2 c3 c4 c5 c6 c7 c8 c9 c10 c11 c12
              have d0 : X.cell? ⟨wr.heap.size + 1, 0, none⟩ = some (.string ⟨#[]⟩) := HXD.out.cell 0
              have d1 : X.cell? ⟨wr.heap.size + 1, 1, none⟩ = some (.int .i64 0) := HXD.out.cell 1
              have d2 : X.cell? ⟨wr.heap.size + 1, 2, none⟩ = some (.bool false) := HXD.out.cell 2
              have d3 : X.cell? ⟨wr.heap.size + 1, 3, none⟩ = some (.int .i64 0) := HXD.out.cell 3
              have d4 : X.cell? ⟨wr.heap.size + 1, 4, none⟩ = some (.int .i64 0) := HXD.out.cell 4
              have d5 : X.cell? ⟨wr.heap.size + 1, 5, none⟩ = some (.int .i64 0) := HXD.out.cell 5
              have d6 : X.cell? ⟨wr.heap.size + 1, 6, none⟩ = some (.int .i64 0) := HXD.out.cell 6
              have d7 : X.cell? ⟨wr.heap.size + 1, 7, none⟩ = some (.slice none 0 0) := HXD.out.cell 7
              have d8 : X.cell? ⟨wr.heap.size + 1, 8, none⟩ = some (.slice none 0 0) := HXD.out.cell 8
              have d9 : X.cell? ⟨wr.heap.size + 1, 9, none⟩ = some (.int .i64 0) := HXD.out.cell 9
              have d10 : X.cell? ⟨wr.heap.size + 1, 10, none⟩ = some (.int .i64 0) := HXD.out.cell 10
              have d11 : X.cell? ⟨wr.heap.size + 1, 11, none⟩ = some (.string ⟨#[]⟩) := HXD.out.cell 11
              have d12 : X.cell? ⟨wr.heap.size + 1, 12, none⟩ = some (.string ⟨#[]⟩) := HXD.out.cell 12
              have z0 := HXD.out.frozen 0
              have z1 := HXD.out.frozen 1
              have z2 := HXD.out.frozen 2
              have z3 := HXD.out.frozen 3
              have z4 := HXD.out.frozen 4
              have z5 := HXD.out.frozen 5
              have z6 := HXD.out.frozen 6
              have z7 := HXD.out.frozen 7
              have z8 := HXD.out.frozen 8
              have z9 := HXD.out.frozen 9
              have z10 := HXD.out.frozen 10
              have z11 := HXD.out.frozen 11
              have z12 := HXD.out.frozen 12
              go_upto_region 18 with (fail)
              obtain ⟨X2, hX2, B9, fX, fK⟩ := fillEv HXD.out o2 (.slice po o2.days.ex.length ko) (.slice pp o2.days.xt.length kp)
              rw [← hX2]
              have hBD := fK (wr.heap.size + 1) X (Nat.le_refl _) (Below.refl _ _)
              have HXD2 := Lib.hid B9
              have HXE2 := Lib.hid (HXE.out.below hBD (by omega))
              have HX2 := Lib.hid (HX.out.trans (hBD.mono (by omega)))
              clear hX2 B9 fX fK hBD s2 y0 c0 d0 z0 c1 d1 z1 c2 d2 z2 c3 d3 z3 c4 d4 z4 c5 d5 z5 c6 d6 z6 c7 d7 z7 c8 d8 z8 c9 d9 z9 c10 d10 z10 c11 d11 z11 c12 d12 z12 HXE HXD HX hsx
              have d1 : X2.cell? ⟨wr.heap.size + 1, 1, none⟩ = some (.int .i64 o2.seq) := HXD2.out.cell 1
              have y1 : X2.cell? ⟨wr.heap.size, 1, none⟩ = some (.int .i64 e.seq) := HXE2.out.cell 1
              by_cases hseq : e.seq ≤ o2.seq
              · have HST := Lib.hid (show (ts.map (·.1), ns) = mrg es (fes.take (k + 1)) from by rw [mrg_take es fes k e HFK.out, ← HM.out, stepM_some HFF.out HFO.out, if_neg (by omega)])
                go_wp2_with fail
                go_roundw
                case rel => exact ⟨k + 1, _, c, q, ts, pn, cn, ns, rfl, by go_num, by omega, Lib.hid HQ.out.1, Lib.hid (HB.out.below HX2.out HB.out.lt), Lib.hid (HO.out.below HX2.out HO.out.lt), Lib.hid (HFB.out.below HX2.out HFB.out.lt), Lib.hid (HT.out.made HX2.out), Lib.hid (row_made HNt.out HX2.out), HST, Lib.hid (HL.out.trans (HX2.out.mono hNr))⟩
                case measure => simp [intOf]; omega
              · obtain ⟨KK, hKK⟩ : ∃ KK, KK = kindV o2.canc true e.canc := ⟨_, rfl⟩
                have hKr0 : KK = 0 ∨ KK = 1 ∨ KK = 2 ∨ KK = 3 := by rw [hKK, kind_told]; exact told_kinds _ _
                have HKV := Lib.hid (show KK = toldV o2.canc e.canc from by rw [hKK, kind_told])
                have hsx := HX2.out.size
                have HSX := Lib.hid (HB.out.below HX2.out HB.out.lt)
                have HLX := Lib.hid (HT.out.made HX2.out)
                have HLB := Lib.hid (HL.out.trans (HX2.out.mono hNr))
                have HP : Hid (Calls Tryz.prog 85 #[.slice (some ⟨bo, oo, none⟩) q c, .agg #[.string e.uid, .int .i64 e.seq, .bool e.canc, .int .i64 e.days.first, .int .i64 e.days.last, .int .i64 e.days.every, .int .i64 e.days.wd, .slice pe e.days.ex.length ke, .slice pf e.days.xt.length kf, .int .i64 e.start, .int .i64 e.mins, .string e.summ, .string e.loc]] X2 fun x w' => ∃ u, x = .returned u ∧ w'.ownsRow X2.heap.size 82 13 u (putT (e, .slice pe e.days.ex.length ke, .slice pf e.days.xt.length kf) ts).length (tCells (putT (e, .slice pe e.days.ex.length ke, .slice pf e.days.xt.length kf) ts)) ∧ Below X2.heap.size X2 w') := Lib.hid (by
                  have h := put85 e pe pf ke kf (some ⟨bo, oo, none⟩) c ts X2.heap.size X2 (Nat.le_refl _) (HLX.out.seg HLB.out (by omega)) HLX.out.nil HLX.out.cap (by have := HQ.out.1; have := HQ.out.2; omega) (((HRE.out).below HLB.out).mono (by omega))
                  rw [← HQ.out.1] at h
                  exact h)
                have s2 : X2.cell? ⟨S, 2, none⟩ = some (.slice (some ⟨bo, oo, none⟩) q c) := HSX.out.cell 2
                have y0 : X2.cell? ⟨wr.heap.size, 0, none⟩ = some (.string e.uid) := HXE2.out.cell 0
                have y1 : X2.cell? ⟨wr.heap.size, 1, none⟩ = some (.int .i64 e.seq) := HXE2.out.cell 1
                have y2 : X2.cell? ⟨wr.heap.size, 2, none⟩ = some (.bool e.canc) := HXE2.out.cell 2
                have y3 : X2.cell? ⟨wr.heap.size, 3, none⟩ = some (.int .i64 e.days.first) := HXE2.out.cell 3
                have y4 : X2.cell? ⟨wr.heap.size, 4, none⟩ = some (.int .i64 e.days.last) := HXE2.out.cell 4
                have y5 : X2.cell? ⟨wr.heap.size, 5, none⟩ = some (.int .i64 e.days.every) := HXE2.out.cell 5
                have y6 : X2.cell? ⟨wr.heap.size, 6, none⟩ = some (.int .i64 e.days.wd) := HXE2.out.cell 6
                have y7 : X2.cell? ⟨wr.heap.size, 7, none⟩ = some (.slice pe e.days.ex.length ke) := HXE2.out.cell 7
                have y8 : X2.cell? ⟨wr.heap.size, 8, none⟩ = some (.slice pf e.days.xt.length kf) := HXE2.out.cell 8
                have y9 : X2.cell? ⟨wr.heap.size, 9, none⟩ = some (.int .i64 e.start) := HXE2.out.cell 9
                have y10 : X2.cell? ⟨wr.heap.size, 10, none⟩ = some (.int .i64 e.mins) := HXE2.out.cell 10
                have y11 : X2.cell? ⟨wr.heap.size, 11, none⟩ = some (.string e.summ) := HXE2.out.cell 11
                have y12 : X2.cell? ⟨wr.heap.size, 12, none⟩ = some (.string e.loc) := HXE2.out.cell 12
                go_wp2_with fail
                refine HP.out.mono ?_
                rintro x x3 ⟨u, rfl, hu, hb3⟩
                clear s2 y0 y1 y2 y3 y4 y5 y6 y7 y8 y9 y10 y11 y12
                obtain ⟨ao2, c2, hu2, hl2⟩ := Lies.own (N := w.heap.size) (w0 := w) (ownsRow_mono hu (by omega)) (putT_ref HRE.out ts HLX.out.ref)
                subst hu2
                obtain ⟨q2, hq2⟩ : ∃ q2, q2 = (putT (e, .slice pe e.days.ex.length ke, .slice pf e.days.xt.length kf) ts).length := ⟨_, rfl⟩
                have HQ2 := Lib.hid hq2
                have hs3 := hb3.size
                have HS3 := Lib.hid (HSX.out.below hb3 HSX.out.lt)
                have HE3 := Lib.hid (HXE2.out.below hb3 HXE2.out.lt)
                have HD3 := Lib.hid (HXD2.out.below hb3 HXD2.out.lt)
                have HT3 := Lib.hid hl2
                have HL3 := Lib.hid (HLB.out.trans (hb3.mono (by omega)))
                have HX3 := Lib.hid (HX2.out.trans (hb3.mono (by omega)))
                clear hu hb3 hl2 HP HSX HLX HLB HXE2 HXD2
                rw [← hq2]
                clear hq2
                have s2 : x3.cell? ⟨S, 2, none⟩ = some (.slice (some ⟨bo, oo, none⟩) q c) := HS3.out.cell 2
                have z2 := HS3.out.frozen 2
                go_upto_region 20 with (fail)
                clear s2 z2
                obtain ⟨x4, hx4⟩ : ∃ x4, x4 = x3.setCell ⟨S, 2, none⟩ (.slice ao2 q2 c2) := ⟨_, rfl⟩
                rw [← hx4]
                have HS4 := Lib.hid (show Blk S #[.int .i64 fv, .int .i64 tag, .slice ao2 q2 c2] 24 x4 from by rw [hx4]; exact HS3.out.set 2 _)
                have HE4 := Lib.hid (show Blk wr.heap.size _ 82 x4 from by rw [hx4]; exact HE3.out.set_other (by omega) 2 _)
                have HD4 := Lib.hid (show Blk (wr.heap.size + 1) _ 82 x4 from by rw [hx4]; exact HD3.out.set_other (by omega) 2 _)
                have HT4 := Lib.hid (show Lies w.heap.size w x4 ao2 c2 _ from by rw [hx4]; exact HT3.out.set HS3.out (by decide) 2 _)
                have HL4 := Lib.hid (show Below w.heap.size w x4 from by rw [hx4]; exact HL3.out.setCell (show w.heap.size ≤ (⟨S, 2, none⟩ : Addr).block from hNS) _)
                have HN4 := Lib.hid (show RowN w.heap.size x4 (.slice pn ns.length cn) ns from by rw [hx4]; exact row_set (row_made HNt.out HX3.out) HS3.out (by decide) 2 _)
                have HO4 := Lib.hid (show Blk (w.heap.size + 2) #[.int .i64 0, .int .i64 0, .slice none 0 0] 24 x4 from by rw [hx4]; exact (HO.out.below HX3.out HO.out.lt).set_other (by omega) 2 _)
                have HF4 := Lib.hid (show Blk (w.heap.size + 1) #[.string fn, .int .i64 fv, .slice (some ⟨bf, of, none⟩) m cf] 26 x4 from by rw [hx4]; exact (HFB.out.below HX3.out HFB.out.lt).set_other (by omega) 2 _)
                have hs4 : x3.heap.size ≤ x4.heap.size := by rw [hx4]; simp
                clear hx4 HS3 HE3 HD3 HT3 HL3 HX3
                have y0 : x4.cell? ⟨wr.heap.size, 0, none⟩ = some (.string e.uid) := HE4.out.cell 0
                have y1 : x4.cell? ⟨wr.heap.size, 1, none⟩ = some (.int .i64 e.seq) := HE4.out.cell 1
                have y2 : x4.cell? ⟨wr.heap.size, 2, none⟩ = some (.bool e.canc) := HE4.out.cell 2
                have y3 : x4.cell? ⟨wr.heap.size, 3, none⟩ = some (.int .i64 e.days.first) := HE4.out.cell 3
                have y4 : x4.cell? ⟨wr.heap.size, 4, none⟩ = some (.int .i64 e.days.last) := HE4.out.cell 4
                have y5 : x4.cell? ⟨wr.heap.size, 5, none⟩ = some (.int .i64 e.days.every) := HE4.out.cell 5
                have y6 : x4.cell? ⟨wr.heap.size, 6, none⟩ = some (.int .i64 e.days.wd) := HE4.out.cell 6
                have y7 : x4.cell? ⟨wr.heap.size, 7, none⟩ = some (.slice pe e.days.ex.length ke) := HE4.out.cell 7
                have y8 : x4.cell? ⟨wr.heap.size, 8, none⟩ = some (.slice pf e.days.xt.length kf) := HE4.out.cell 8
                have y9 : x4.cell? ⟨wr.heap.size, 9, none⟩ = some (.int .i64 e.start) := HE4.out.cell 9
                have y10 : x4.cell? ⟨wr.heap.size, 10, none⟩ = some (.int .i64 e.mins) := HE4.out.cell 10
                have y11 : x4.cell? ⟨wr.heap.size, 11, none⟩ = some (.string e.summ) := HE4.out.cell 11
                have y12 : x4.cell? ⟨wr.heap.size, 12, none⟩ = some (.string e.loc) := HE4.out.cell 12
                have d0 : x4.cell? ⟨(wr.heap.size + 1), 0, none⟩ = some (.string o2.uid) := HD4.out.cell 0
                have d1 : x4.cell? ⟨(wr.heap.size + 1), 1, none⟩ = some (.int .i64 o2.seq) := HD4.out.cell 1
                have d2 : x4.cell? ⟨(wr.heap.size + 1), 2, none⟩ = some (.bool o2.canc) := HD4.out.cell 2
                have d3 : x4.cell? ⟨(wr.heap.size + 1), 3, none⟩ = some (.int .i64 o2.days.first) := HD4.out.cell 3
                have d4 : x4.cell? ⟨(wr.heap.size + 1), 4, none⟩ = some (.int .i64 o2.days.last) := HD4.out.cell 4
                have d5 : x4.cell? ⟨(wr.heap.size + 1), 5, none⟩ = some (.int .i64 o2.days.every) := HD4.out.cell 5
                have d6 : x4.cell? ⟨(wr.heap.size + 1), 6, none⟩ = some (.int .i64 o2.days.wd) := HD4.out.cell 6
                have d7 : x4.cell? ⟨(wr.heap.size + 1), 7, none⟩ = some (.slice po o2.days.ex.length ko) := HD4.out.cell 7
                have d8 : x4.cell? ⟨(wr.heap.size + 1), 8, none⟩ = some (.slice pp o2.days.xt.length kp) := HD4.out.cell 8
                have d9 : x4.cell? ⟨(wr.heap.size + 1), 9, none⟩ = some (.int .i64 o2.start) := HD4.out.cell 9
                have d10 : x4.cell? ⟨(wr.heap.size + 1), 10, none⟩ = some (.int .i64 o2.mins) := HD4.out.cell 10
                have d11 : x4.cell? ⟨(wr.heap.size + 1), 11, none⟩ = some (.string o2.summ) := HD4.out.cell 11
                have d12 : x4.cell? ⟨(wr.heap.size + 1), 12, none⟩ = some (.string o2.loc) := HD4.out.cell 12
                have HK : Hid (Calls Tryz.prog 86 #[.agg #[.string o2.uid, .int .i64 o2.seq, .bool o2.canc, .int .i64 o2.days.first, .int .i64 o2.days.last, .int .i64 o2.days.every, .int .i64 o2.days.wd, .slice po o2.days.ex.length ko, .slice pp o2.days.xt.length kp, .int .i64 o2.start, .int .i64 o2.mins, .string o2.summ, .string o2.loc], .bool true, .agg #[.string e.uid, .int .i64 e.seq, .bool e.canc, .int .i64 e.days.first, .int .i64 e.days.last, .int .i64 e.days.every, .int .i64 e.days.wd, .slice pe e.days.ex.length ke, .slice pf e.days.xt.length kf, .int .i64 e.start, .int .i64 e.mins, .string e.summ, .string e.loc]] x4 fun x w' => x = .returned (.int .i64 KK) ∧ Below x4.heap.size x4 w') := Lib.hid (by rw [hKK]; exact kind86 o2 e true po pp pe pf _ _ _ _ ko kp ke kf x4)
                have HKr := Lib.hid hKr0
                clear hKK hKr0 hs4 hs3 hsx hNS2 hNS hSr hNr
                go_wp2_with fail
                try rw [show decide ((0 : Int) ≤ (j : Int)) = true from decide_eq_true (by omega)]
                refine HK.out.mono ?_
                rintro x x5 ⟨rfl, hb5⟩
                have HS5 := Lib.hid (HS4.out.below hb5 HS4.out.lt)
                have HE5 := Lib.hid (HE4.out.below hb5 HE4.out.lt)
                have HT5 := Lib.hid (HT4.out.made hb5)
                have HL5 := Lib.hid (HL4.out.trans (hb5.mono HL4.out.size))
                have HN5 := Lib.hid (row_made HN4.out hb5)
                have HO5 := Lib.hid (HO4.out.below hb5 HO4.out.lt)
                have HF5 := Lib.hid (HF4.out.below hb5 HF4.out.lt)
                clear hb5 HS4 HE4 HD4 HT4 HL4 HN4 HO4 HF4 HK y0 d0 y1 d1 y2 d2 y3 d3 y4 d4 y5 d5 y6 d6 y7 d7 y8 d8 y9 d9 y10 d10 y11 d11 y12 d12
                have y0 : x5.cell? ⟨wr.heap.size, 0, none⟩ = some (.string e.uid) := HE5.out.cell 0
                have y1 : x5.cell? ⟨wr.heap.size, 1, none⟩ = some (.int .i64 e.seq) := HE5.out.cell 1
                have hKr := HKr.out
                have hKn : 0 ≤ KK := by omega
                clear hKr
                by_cases hpos : 0 < KK
                · have HST := Lib.hid (show ((putT (e, .slice pe e.days.ex.length ke, .slice pf e.days.xt.length kf) ts).map (·.1), ns ++ [⟨KK, e.uid, e.seq⟩]) = mrg es (fes.take (k + 1)) from by
                    rw [mrg_take es fes k e HFK.out, ← HM.out, putT_map]
                    rw [stepM_some HFF.out HFO.out, if_pos (by omega)]
                    unfold noteN
                    rw [← HKV.out, if_neg (by omega)])
                  go_wp2_with (at_builtin; refine wpList_append_own_at _ rfl (.tmp 79) (.tmp 86) 41 rfl w.heap.size 99 i0 _ 3 32 Tryz.underlying41 hi hz0 hz1 hz2 rfl (by decide) _ _ _ rfl (World.ownsRow.alloc HN5.out _) ⟨x5.heap.size, 0, none⟩ 1 1 [.int .i64 KK, .string e.uid, .int .i64 e.seq] rfl rfl (blk_cells (Blk.new x5 #[.int .i64 KK, .string e.uid, .int .i64 e.seq] 99)) (by intro u hu; simp only [List.mem_cons, List.not_mem_nil, or_false] at hu; rcases hu with rfl | rfl | rfl <;> rfl) (by unfold maxLen; have := HNL.out; omega) (by have := HNL.out; omega) (by have := HL5.out.size; simp; omega) ?_)
                  intro v' x8 hown8 hgrow _ _
                  obtain ⟨p8, q8, hv8⟩ := ownsRow_len hown8
                  subst hv8
                  have HS8 := Lib.hid ((HS5.out.alloc _).grown (World.ownsRow.alloc HN5.out _) hgrow (by decide))
                  have HO8 := Lib.hid ((HO5.out.alloc _).grown (World.ownsRow.alloc HN5.out _) hgrow (by decide))
                  have HF8 := Lib.hid ((HF5.out.alloc _).grown (World.ownsRow.alloc HN5.out _) hgrow (by decide))
                  have HT8 := Lib.hid (HT5.out.row (fun k => World.ownsRow.kept (World.ownsRow.alloc k (.cells #[.int .i64 KK, .string e.uid, .int .i64 e.seq] 99)) hgrow (row_apart_ty (World.ownsRow.alloc k (.cells #[.int .i64 KK, .string e.uid, .int .i64 e.seq] 99)) (World.ownsRow.alloc HN5.out (.cells #[.int .i64 KK, .string e.uid, .int .i64 e.seq] 99)) (by decide))))
                  have HL8 := Lib.hid (below_grownBy (HL5.out.alloc HL5.out.size _) (World.ownsRow.alloc HN5.out _) (Nat.le_refl _) (by have := HL5.out.size; simp; omega) hgrow)
                  have HN8 := Lib.hid (RowN.snoc (n := ⟨KK, e.uid, e.seq⟩) hown8)
                  clear hgrow hown8 HS5 HE5 HT5 HL5 HN5 HO5 HF5 y0 y1
                  go_wp2_with fail
                  go_roundw
                  case rel => exact ⟨k + 1, ao2, c2, q2, putT (e, .slice pe e.days.ex.length ke, .slice pf e.days.xt.length kf) ts, p8, q8, ns ++ [⟨KK, e.uid, e.seq⟩], by simp, by go_num, by omega, HQ2, HS8, HO8, HF8, HT8, Lib.hid (by simpa using HN8.out), HST, HL8⟩
                  case measure => simp [intOf]; omega
                · have HST := Lib.hid (show ((putT (e, .slice pe e.days.ex.length ke, .slice pf e.days.xt.length kf) ts).map (·.1), ns) = mrg es (fes.take (k + 1)) from by
                    rw [mrg_take es fes k e HFK.out, ← HM.out, putT_map]
                    rw [stepM_some HFF.out HFO.out, if_pos (by omega)]
                    unfold noteN
                    rw [← HKV.out, if_pos (by omega)])
                  go_wp2_with fail
                  go_roundw
                  case rel => exact ⟨k + 1, ao2, c2, q2, putT (e, .slice pe e.days.ex.length ke, .slice pf e.days.xt.length kf) ts, pn, cn, ns, rfl, by go_num, by omega, HQ2, HS5, HO5, HF5, HT5, HN5, HST, HL5⟩
                  case measure => simp [intOf]; omega
            · have HFF := Lib.hid (findFrom_not e.uid (ts.map (·.1)) (by rw [← HFd.out]; exact hF0))
              clear s2 y0 hsx
              obtain ⟨KK, hKK⟩ : ∃ KK, KK = kindV false false e.canc := ⟨_, rfl⟩
              have hKr0 : KK = 0 ∨ KK = 1 ∨ KK = 2 ∨ KK = 3 := by rw [hKK, kind_new]; exact told_kinds _ _
              have HKV := Lib.hid (show KK = toldV true e.canc from by rw [hKK, kind_new])
              have hsx := HX.out.size
              have HSX := Lib.hid (HB.out.below HX.out HB.out.lt)
              have HLX := Lib.hid (HT.out.made HX.out)
              have HLB := Lib.hid (HL.out.trans (HX.out.mono hNr))
              have HP : Hid (Calls Tryz.prog 85 #[.slice ao q c, .agg #[.string e.uid, .int .i64 e.seq, .bool e.canc, .int .i64 e.days.first, .int .i64 e.days.last, .int .i64 e.days.every, .int .i64 e.days.wd, .slice pe e.days.ex.length ke, .slice pf e.days.xt.length kf, .int .i64 e.start, .int .i64 e.mins, .string e.summ, .string e.loc]] X fun x w' => ∃ u, x = .returned u ∧ w'.ownsRow X.heap.size 82 13 u (putT (e, .slice pe e.days.ex.length ke, .slice pf e.days.xt.length kf) ts).length (tCells (putT (e, .slice pe e.days.ex.length ke, .slice pf e.days.xt.length kf) ts)) ∧ Below X.heap.size X w') := Lib.hid (by
                have h := put85 e pe pf ke kf ao c ts X.heap.size X (Nat.le_refl _) (HLX.out.seg HLB.out (by omega)) HLX.out.nil HLX.out.cap (by have := HQ.out.1; have := HQ.out.2; omega) (((HRE.out).below HLB.out).mono (by omega))
                rw [← HQ.out.1] at h
                exact h)
              have s2 : X.cell? ⟨S, 2, none⟩ = some (.slice ao q c) := HSX.out.cell 2
              have y0 : X.cell? ⟨wr.heap.size, 0, none⟩ = some (.string e.uid) := HXE.out.cell 0
              have y1 : X.cell? ⟨wr.heap.size, 1, none⟩ = some (.int .i64 e.seq) := HXE.out.cell 1
              have y2 : X.cell? ⟨wr.heap.size, 2, none⟩ = some (.bool e.canc) := HXE.out.cell 2
              have y3 : X.cell? ⟨wr.heap.size, 3, none⟩ = some (.int .i64 e.days.first) := HXE.out.cell 3
              have y4 : X.cell? ⟨wr.heap.size, 4, none⟩ = some (.int .i64 e.days.last) := HXE.out.cell 4
              have y5 : X.cell? ⟨wr.heap.size, 5, none⟩ = some (.int .i64 e.days.every) := HXE.out.cell 5
              have y6 : X.cell? ⟨wr.heap.size, 6, none⟩ = some (.int .i64 e.days.wd) := HXE.out.cell 6
              have y7 : X.cell? ⟨wr.heap.size, 7, none⟩ = some (.slice pe e.days.ex.length ke) := HXE.out.cell 7
              have y8 : X.cell? ⟨wr.heap.size, 8, none⟩ = some (.slice pf e.days.xt.length kf) := HXE.out.cell 8
              have y9 : X.cell? ⟨wr.heap.size, 9, none⟩ = some (.int .i64 e.start) := HXE.out.cell 9
              have y10 : X.cell? ⟨wr.heap.size, 10, none⟩ = some (.int .i64 e.mins) := HXE.out.cell 10
              have y11 : X.cell? ⟨wr.heap.size, 11, none⟩ = some (.string e.summ) := HXE.out.cell 11
              have y12 : X.cell? ⟨wr.heap.size, 12, none⟩ = some (.string e.loc) := HXE.out.cell 12
              go_wp2_with fail
              refine HP.out.mono ?_
              rintro x x3 ⟨u, rfl, hu, hb3⟩
              clear s2 y0 y1 y2 y3 y4 y5 y6 y7 y8 y9 y10 y11 y12
              obtain ⟨ao2, c2, hu2, hl2⟩ := Lies.own (N := w.heap.size) (w0 := w) (ownsRow_mono hu (by omega)) (putT_ref HRE.out ts HLX.out.ref)
              subst hu2
              obtain ⟨q2, hq2⟩ : ∃ q2, q2 = (putT (e, .slice pe e.days.ex.length ke, .slice pf e.days.xt.length kf) ts).length := ⟨_, rfl⟩
              have HQ2 := Lib.hid hq2
              have hs3 := hb3.size
              have HS3 := Lib.hid (HSX.out.below hb3 HSX.out.lt)
              have HE3 := Lib.hid (HXE.out.below hb3 HXE.out.lt)
              have HD3 := Lib.hid (HXD.out.below hb3 HXD.out.lt)
              have HT3 := Lib.hid hl2
              have HL3 := Lib.hid (HLB.out.trans (hb3.mono (by omega)))
              have HX3 := Lib.hid (HX.out.trans (hb3.mono (by omega)))
              clear hu hb3 hl2 HP HSX HLX HLB HXE HXD
              rw [← hq2]
              clear hq2
              have s2 : x3.cell? ⟨S, 2, none⟩ = some (.slice ao q c) := HS3.out.cell 2
              have z2 := HS3.out.frozen 2
              go_upto_region 20 with (fail)
              clear s2 z2
              obtain ⟨x4, hx4⟩ : ∃ x4, x4 = x3.setCell ⟨S, 2, none⟩ (.slice ao2 q2 c2) := ⟨_, rfl⟩
              rw [← hx4]
              have HS4 := Lib.hid (show Blk S #[.int .i64 fv, .int .i64 tag, .slice ao2 q2 c2] 24 x4 from by rw [hx4]; exact HS3.out.set 2 _)
              have HE4 := Lib.hid (show Blk wr.heap.size _ 82 x4 from by rw [hx4]; exact HE3.out.set_other (by omega) 2 _)
              have HD4 := Lib.hid (show Blk (wr.heap.size + 1) _ 82 x4 from by rw [hx4]; exact HD3.out.set_other (by omega) 2 _)
              have HT4 := Lib.hid (show Lies w.heap.size w x4 ao2 c2 _ from by rw [hx4]; exact HT3.out.set HS3.out (by decide) 2 _)
              have HL4 := Lib.hid (show Below w.heap.size w x4 from by rw [hx4]; exact HL3.out.setCell (show w.heap.size ≤ (⟨S, 2, none⟩ : Addr).block from hNS) _)
              have HN4 := Lib.hid (show RowN w.heap.size x4 (.slice pn ns.length cn) ns from by rw [hx4]; exact row_set (row_made HNt.out HX3.out) HS3.out (by decide) 2 _)
              have HO4 := Lib.hid (show Blk (w.heap.size + 2) #[.int .i64 0, .int .i64 0, .slice none 0 0] 24 x4 from by rw [hx4]; exact (HO.out.below HX3.out HO.out.lt).set_other (by omega) 2 _)
              have HF4 := Lib.hid (show Blk (w.heap.size + 1) #[.string fn, .int .i64 fv, .slice (some ⟨bf, of, none⟩) m cf] 26 x4 from by rw [hx4]; exact (HFB.out.below HX3.out HFB.out.lt).set_other (by omega) 2 _)
              have hs4 : x3.heap.size ≤ x4.heap.size := by rw [hx4]; simp
              clear hx4 HS3 HE3 HD3 HT3 HL3 HX3
              have y0 : x4.cell? ⟨wr.heap.size, 0, none⟩ = some (.string e.uid) := HE4.out.cell 0
              have y1 : x4.cell? ⟨wr.heap.size, 1, none⟩ = some (.int .i64 e.seq) := HE4.out.cell 1
              have y2 : x4.cell? ⟨wr.heap.size, 2, none⟩ = some (.bool e.canc) := HE4.out.cell 2
              have y3 : x4.cell? ⟨wr.heap.size, 3, none⟩ = some (.int .i64 e.days.first) := HE4.out.cell 3
              have y4 : x4.cell? ⟨wr.heap.size, 4, none⟩ = some (.int .i64 e.days.last) := HE4.out.cell 4
              have y5 : x4.cell? ⟨wr.heap.size, 5, none⟩ = some (.int .i64 e.days.every) := HE4.out.cell 5
              have y6 : x4.cell? ⟨wr.heap.size, 6, none⟩ = some (.int .i64 e.days.wd) := HE4.out.cell 6
              have y7 : x4.cell? ⟨wr.heap.size, 7, none⟩ = some (.slice pe e.days.ex.length ke) := HE4.out.cell 7
              have y8 : x4.cell? ⟨wr.heap.size, 8, none⟩ = some (.slice pf e.days.xt.length kf) := HE4.out.cell 8
              have y9 : x4.cell? ⟨wr.heap.size, 9, none⟩ = some (.int .i64 e.start) := HE4.out.cell 9
              have y10 : x4.cell? ⟨wr.heap.size, 10, none⟩ = some (.int .i64 e.mins) := HE4.out.cell 10
              have y11 : x4.cell? ⟨wr.heap.size, 11, none⟩ = some (.string e.summ) := HE4.out.cell 11
              have y12 : x4.cell? ⟨wr.heap.size, 12, none⟩ = some (.string e.loc) := HE4.out.cell 12
              have d0 : x4.cell? ⟨(wr.heap.size + 1), 0, none⟩ = some (.string ⟨#[]⟩) := HD4.out.cell 0
              have d1 : x4.cell? ⟨(wr.heap.size + 1), 1, none⟩ = some (.int .i64 0) := HD4.out.cell 1
              have d2 : x4.cell? ⟨(wr.heap.size + 1), 2, none⟩ = some (.bool false) := HD4.out.cell 2
              have d3 : x4.cell? ⟨(wr.heap.size + 1), 3, none⟩ = some (.int .i64 0) := HD4.out.cell 3
              have d4 : x4.cell? ⟨(wr.heap.size + 1), 4, none⟩ = some (.int .i64 0) := HD4.out.cell 4
              have d5 : x4.cell? ⟨(wr.heap.size + 1), 5, none⟩ = some (.int .i64 0) := HD4.out.cell 5
              have d6 : x4.cell? ⟨(wr.heap.size + 1), 6, none⟩ = some (.int .i64 0) := HD4.out.cell 6
              have d7 : x4.cell? ⟨(wr.heap.size + 1), 7, none⟩ = some (.slice none 0 0) := HD4.out.cell 7
              have d8 : x4.cell? ⟨(wr.heap.size + 1), 8, none⟩ = some (.slice none 0 0) := HD4.out.cell 8
              have d9 : x4.cell? ⟨(wr.heap.size + 1), 9, none⟩ = some (.int .i64 0) := HD4.out.cell 9
              have d10 : x4.cell? ⟨(wr.heap.size + 1), 10, none⟩ = some (.int .i64 0) := HD4.out.cell 10
              have d11 : x4.cell? ⟨(wr.heap.size + 1), 11, none⟩ = some (.string ⟨#[]⟩) := HD4.out.cell 11
              have d12 : x4.cell? ⟨(wr.heap.size + 1), 12, none⟩ = some (.string ⟨#[]⟩) := HD4.out.cell 12
              have HK : Hid (Calls Tryz.prog 86 #[.agg #[.string ⟨#[]⟩, .int .i64 0, .bool false, .int .i64 0, .int .i64 0, .int .i64 0, .int .i64 0, .slice none 0 0, .slice none 0 0, .int .i64 0, .int .i64 0, .string ⟨#[]⟩, .string ⟨#[]⟩], .bool false, .agg #[.string e.uid, .int .i64 e.seq, .bool e.canc, .int .i64 e.days.first, .int .i64 e.days.last, .int .i64 e.days.every, .int .i64 e.days.wd, .slice pe e.days.ex.length ke, .slice pf e.days.xt.length kf, .int .i64 e.start, .int .i64 e.mins, .string e.summ, .string e.loc]] x4 fun x w' => x = .returned (.int .i64 KK) ∧ Below x4.heap.size x4 w') := Lib.hid (by rw [hKK]; exact kind86 (⟨⟨#[]⟩, 0, false, ⟨0, 0, 0, 0, [], []⟩, 0, 0, ⟨#[]⟩, ⟨#[]⟩⟩ : Ev) e false none none pe pf 0 0 _ _ 0 0 ke kf x4)
              have HKr := Lib.hid hKr0
              clear hKK hKr0 hs4 hs3 hsx hNS2 hNS hSr hNr
              go_wp2_with fail
              rw [show decide ((0 : Int) ≤ F) = false from decide_eq_false (by omega)]
              refine HK.out.mono ?_
              rintro x x5 ⟨rfl, hb5⟩
              have HS5 := Lib.hid (HS4.out.below hb5 HS4.out.lt)
              have HE5 := Lib.hid (HE4.out.below hb5 HE4.out.lt)
              have HT5 := Lib.hid (HT4.out.made hb5)
              have HL5 := Lib.hid (HL4.out.trans (hb5.mono HL4.out.size))
              have HN5 := Lib.hid (row_made HN4.out hb5)
              have HO5 := Lib.hid (HO4.out.below hb5 HO4.out.lt)
              have HF5 := Lib.hid (HF4.out.below hb5 HF4.out.lt)
              clear hb5 HS4 HE4 HD4 HT4 HL4 HN4 HO4 HF4 HK y0 d0 y1 d1 y2 d2 y3 d3 y4 d4 y5 d5 y6 d6 y7 d7 y8 d8 y9 d9 y10 d10 y11 d11 y12 d12
              have y0 : x5.cell? ⟨wr.heap.size, 0, none⟩ = some (.string e.uid) := HE5.out.cell 0
              have y1 : x5.cell? ⟨wr.heap.size, 1, none⟩ = some (.int .i64 e.seq) := HE5.out.cell 1
              have hKr := HKr.out
              have hKn : 0 ≤ KK := by omega
              clear hKr
              by_cases hpos : 0 < KK
              · have HST := Lib.hid (show ((putT (e, .slice pe e.days.ex.length ke, .slice pf e.days.xt.length kf) ts).map (·.1), ns ++ [⟨KK, e.uid, e.seq⟩]) = mrg es (fes.take (k + 1)) from by
                  rw [mrg_take es fes k e HFK.out, ← HM.out, putT_map]
                  rw [stepM_none HFF.out]
                  unfold noteN
                  rw [← HKV.out, if_neg (by omega)])
                go_wp2_with (at_builtin; refine wpList_append_own_at _ rfl (.tmp 79) (.tmp 86) 41 rfl w.heap.size 99 i0 _ 3 32 Tryz.underlying41 hi hz0 hz1 hz2 rfl (by decide) _ _ _ rfl (World.ownsRow.alloc HN5.out _) ⟨x5.heap.size, 0, none⟩ 1 1 [.int .i64 KK, .string e.uid, .int .i64 e.seq] rfl rfl (blk_cells (Blk.new x5 #[.int .i64 KK, .string e.uid, .int .i64 e.seq] 99)) (by intro u hu; simp only [List.mem_cons, List.not_mem_nil, or_false] at hu; rcases hu with rfl | rfl | rfl <;> rfl) (by unfold maxLen; have := HNL.out; omega) (by have := HNL.out; omega) (by have := HL5.out.size; simp; omega) ?_)
                intro v' x8 hown8 hgrow _ _
                obtain ⟨p8, q8, hv8⟩ := ownsRow_len hown8
                subst hv8
                have HS8 := Lib.hid ((HS5.out.alloc _).grown (World.ownsRow.alloc HN5.out _) hgrow (by decide))
                have HO8 := Lib.hid ((HO5.out.alloc _).grown (World.ownsRow.alloc HN5.out _) hgrow (by decide))
                have HF8 := Lib.hid ((HF5.out.alloc _).grown (World.ownsRow.alloc HN5.out _) hgrow (by decide))
                have HT8 := Lib.hid (HT5.out.row (fun k => World.ownsRow.kept (World.ownsRow.alloc k (.cells #[.int .i64 KK, .string e.uid, .int .i64 e.seq] 99)) hgrow (row_apart_ty (World.ownsRow.alloc k (.cells #[.int .i64 KK, .string e.uid, .int .i64 e.seq] 99)) (World.ownsRow.alloc HN5.out (.cells #[.int .i64 KK, .string e.uid, .int .i64 e.seq] 99)) (by decide))))
                have HL8 := Lib.hid (below_grownBy (HL5.out.alloc HL5.out.size _) (World.ownsRow.alloc HN5.out _) (Nat.le_refl _) (by have := HL5.out.size; simp; omega) hgrow)
                have HN8 := Lib.hid (RowN.snoc (n := ⟨KK, e.uid, e.seq⟩) hown8)
                clear hgrow hown8 HS5 HE5 HT5 HL5 HN5 HO5 HF5 y0 y1
                go_wp2_with fail
                go_roundw
                case rel => exact ⟨k + 1, ao2, c2, q2, putT (e, .slice pe e.days.ex.length ke, .slice pf e.days.xt.length kf) ts, p8, q8, ns ++ [⟨KK, e.uid, e.seq⟩], by simp, by go_num, by omega, HQ2, HS8, HO8, HF8, HT8, Lib.hid (by simpa using HN8.out), HST, HL8⟩
                case measure => simp [intOf]; omega
              · have HST := Lib.hid (show ((putT (e, .slice pe e.days.ex.length ke, .slice pf e.days.xt.length kf) ts).map (·.1), ns) = mrg es (fes.take (k + 1)) from by
                  rw [mrg_take es fes k e HFK.out, ← HM.out, putT_map]
                  rw [stepM_none HFF.out]
                  unfold noteN
                  rw [← HKV.out, if_pos (by omega)])
                go_wp2_with fail
                go_roundw
                case rel => exact ⟨k + 1, ao2, c2, q2, putT (e, .slice pe e.days.ex.length ke, .slice pf e.days.xt.length kf) ts, pn, cn, ns, rfl, by go_num, by omega, HQ2, HS5, HO5, HF5, HT5, HN5, HST, HL5⟩
                case measure => simp [intOf]; omega
          · have hlti : ¬ (k : Int) < m := by omega
            have hkm : k = m := by omega
            have HMA := Lib.hid (show (ts.map (·.1), ns) = mrg es fes from by rw [HM.out, hkm, ← HLM.out, mrg_all])
            have s0 : wr.cell? ⟨S, 0, none⟩ = some (.int .i64 fv) := HB.out.cell 0
            have s1 : wr.cell? ⟨S, 1, none⟩ = some (.int .i64 tag) := HB.out.cell 1
            have s2 : wr.cell? ⟨S, 2, none⟩ = some (.slice ao q c) := HB.out.cell 2
            obtain ⟨us, hus⟩ : ∃ us, us = ts.map (·.1) := ⟨_, rfl⟩
            have HUL := Lib.hid (show us.length = q from by rw [hus, List.length_map, HQ.out.1])
            have HEV := Lib.hid (show Evs wr.heap.size wr ao us from by rw [hus]; exact (HT.out.seg HL.out hNr).evs)
            rw [← hus] at HMA
            have HUS := Lib.hid hus
            clear hus
            by_cases hbig : 256 < (q : Int)
            · have HM : Hid (mergeV rv tag es fn fv fes = (0, 0, [], [], 2)) := Lib.hid (by unfold mergeV; rw [if_neg (by rw [HOK.out]; simp), if_neg (by rw [← HFV.out]; simp), if_neg (by omega), ← HMA.out, if_pos (by show 256 < (us.length : Int); rw [HUL.out]; exact hbig)])
              have r0 : wr.cell? ⟨w.heap.size + 2, 0, none⟩ = some (.int .i64 0) := HO.out.cell 0
              have r1 : wr.cell? ⟨w.heap.size + 2, 1, none⟩ = some (.int .i64 0) := HO.out.cell 1
              have r2 : wr.cell? ⟨w.heap.size + 2, 2, none⟩ = some (.slice none 0 0) := HO.out.cell 2
              have z0 := HO.out.frozen 0
              have z1 := HO.out.frozen 1
              have z2 := HO.out.frozen 2
              go_wp2_with fail
              have B3 := ((HO.out.set 0 (.int .i64 0)).set 1 (.int .i64 0)).set 2 (.slice none 0 0)
              have L3 := ((HL.out.setCell (show w.heap.size ≤ (⟨w.heap.size + 2, 0, none⟩ : Addr).block from by show w.heap.size ≤ w.heap.size + 2; omega) (.int .i64 0)).setCell (show w.heap.size ≤ (⟨w.heap.size + 2, 1, none⟩ : Addr).block from by show w.heap.size ≤ w.heap.size + 2; omega) (.int .i64 0)).setCell (show w.heap.size ≤ (⟨w.heap.size + 2, 2, none⟩ : Addr).block from by show w.heap.size ≤ w.heap.size + 2; omega) (.slice none 0 0)
              obtain ⟨W, hW⟩ : ∃ W, W = ((wr.setCell ⟨w.heap.size + 2, 0, none⟩ (.int .i64 0)).setCell ⟨w.heap.size + 2, 1, none⟩ (.int .i64 0)).setCell ⟨w.heap.size + 2, 2, none⟩ (.slice none 0 0) := ⟨_, rfl⟩
              rw [← hW] at B3 L3 ⊢
              clear hW r0 r1 r2 z0 z1 z2
              have r0 : W.cell? ⟨w.heap.size + 2, 0, none⟩ = some (.int .i64 0) := B3.cell 0
              have r1 : W.cell? ⟨w.heap.size + 2, 1, none⟩ = some (.int .i64 0) := B3.cell 1
              have r2 : W.cell? ⟨w.heap.size + 2, 2, none⟩ = some (.slice none 0 0) := B3.cell 2
              refine bodyPost_ret (v := .tuple #[.agg #[.int .i64 0, .int .i64 0, .slice none 0 0], .slice none 0 0, .int .i64 2]) (by simp [results, Tryz.results27, go_sem, r0, r1, r2]) rfl ?_
              exact ⟨0, 0, 2, none, 0, [], none, 0, [], rfl, HM.out.symm, (.inl rfl), RowN.nil _ _, L3⟩
            · have HM : Hid (mergeV rv tag es fn fv fes = (fv, tag, us, ns, 0)) := Lib.hid (by unfold mergeV; rw [if_neg (by rw [HOK.out]; simp), if_neg (by rw [← HFV.out]; simp), if_neg (by omega), ← HMA.out, if_neg (by show ¬ 256 < (us.length : Int); rw [HUL.out]; exact hbig)])
              have r0 : wr.cell? ⟨w.heap.size + 2, 0, none⟩ = some (.int .i64 0) := HO.out.cell 0
              have r1 : wr.cell? ⟨w.heap.size + 2, 1, none⟩ = some (.int .i64 0) := HO.out.cell 1
              have r2 : wr.cell? ⟨w.heap.size + 2, 2, none⟩ = some (.slice none 0 0) := HO.out.cell 2
              have z0 := HO.out.frozen 0
              have z1 := HO.out.frozen 1
              have z2 := HO.out.frozen 2
              go_wp2_with fail
              have B3 := ((HO.out.set 0 (.int .i64 fv)).set 1 (.int .i64 tag)).set 2 (.slice ao q c)
              have L3 := ((HL.out.setCell (show w.heap.size ≤ (⟨w.heap.size + 2, 0, none⟩ : Addr).block from by show w.heap.size ≤ w.heap.size + 2; omega) (.int .i64 fv)).setCell (show w.heap.size ≤ (⟨w.heap.size + 2, 1, none⟩ : Addr).block from by show w.heap.size ≤ w.heap.size + 2; omega) (.int .i64 tag)).setCell (show w.heap.size ≤ (⟨w.heap.size + 2, 2, none⟩ : Addr).block from by show w.heap.size ≤ w.heap.size + 2; omega) (.slice ao q c)
              have N3 := row_set (row_set (row_set HNt.out HO.out (by decide) 0 (.int .i64 fv)) (HO.out.set 0 (.int .i64 fv)) (by decide) 1 (.int .i64 tag)) ((HO.out.set 0 (.int .i64 fv)).set 1 (.int .i64 tag)) (by decide) 2 (.slice ao q c)
              have T3 := ((HT.out.set HO.out (by decide) 0 (.int .i64 fv)).set (HO.out.set 0 (.int .i64 fv)) (by decide) 1 (.int .i64 tag)).set ((HO.out.set 0 (.int .i64 fv)).set 1 (.int .i64 tag)) (by decide) 2 (.slice ao q c)
              obtain ⟨W, hW⟩ : ∃ W, W = ((wr.setCell ⟨w.heap.size + 2, 0, none⟩ (.int .i64 fv)).setCell ⟨w.heap.size + 2, 1, none⟩ (.int .i64 tag)).setCell ⟨w.heap.size + 2, 2, none⟩ (.slice ao q c) := ⟨_, rfl⟩
              rw [← hW] at B3 L3 N3 T3 ⊢
              clear hW r0 r1 r2 z0 z1 z2
              have r0 : W.cell? ⟨w.heap.size + 2, 0, none⟩ = some (.int .i64 fv) := B3.cell 0
              have r1 : W.cell? ⟨w.heap.size + 2, 1, none⟩ = some (.int .i64 tag) := B3.cell 1
              have r2 : W.cell? ⟨w.heap.size + 2, 2, none⟩ = some (.slice ao q c) := B3.cell 2
              refine bodyPost_ret (v := .tuple #[.agg #[.int .i64 fv, .int .i64 tag, .slice ao q c], .slice pn ns.length cn, .int .i64 0]) (by simp [results, Tryz.results27, go_sem, r0, r1, r2]) rfl ?_
              exact ⟨fv, tag, 0, ao, c, us, pn, cn, ns, by rw [HUL.out], HM.out.symm, by have h := (T3.seg L3 L3.size).evs; rw [show us = ts.map (·.1) from HUS.out]; exact h, N3, L3⟩
end Go.Proofs.YtageielcdebjlaaGreatDoor
