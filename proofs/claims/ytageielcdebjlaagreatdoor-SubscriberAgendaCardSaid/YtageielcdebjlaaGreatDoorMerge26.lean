/- subscriber.Merge: its contract. -/
import Derived.Test.YtageielcdebjlaaGreatDoorPk22
import Derived.Test.YtageielcdebjlaaGreatDoorPk16
import Derived.Deep.CutBlock
namespace Go.Proofs.YtageielcdebjlaaGreatDoor
open Go.RowKit

/-- What Merge leaves. -/
def Merged (rv tag : Int) (es : List Ev) (n : ByteArray) (v : Int) (fs : List Ev) (w : World) (x : Ending) (w' : World) : Prop :=
  ∃ (v' tag' c : Int) (pu : Option Addr) (cu : Nat) (us : List (Ev × Value × Value)) (pn : Option Addr) (cn : Nat) (ns : List Nt),
    x = .returned (.tuple #[.agg #[.int .i64 v', .int .i64 tag', .slice pu us.length cu], .slice pn ns.length cn, .int .i64 c]) ∧
    (v', tag', us.map (·.1), ns, c) = mergeV rv tag es n v fs ∧ RowT w.heap.size w' (.slice pu us.length cu) us ∧ RowN w.heap.size w' (.slice pn ns.length cn) ns ∧ Below w.heap.size w w'

set_option maxHeartbeats 16000000 in
set_option maxRecDepth 100000 in
theorem merge26 (rv tag : Int) (ar : Option Addr) (cr : Nat) (rs : List (Ev × Value × Value)) (fn : ByteArray) (fv : Int) (af : Option Addr) (cf : Nat) (fs : List (Ev × Value × Value)) (w : World) (hR : Seg w.heap.size w ar rs) (hF : Seg w.heap.size w af fs)
    (hrl : rs.length ≤ 1000000000) (hfl : fs.length ≤ 1000000000) (hsr : ∀ t ∈ rs, t.1.days.ex.length ≤ 1000000 ∧ t.1.days.xt.length ≤ 1000000) (hsf : ∀ t ∈ fs, t.1.days.ex.length ≤ 1000000 ∧ t.1.days.xt.length ≤ 1000000) :
    Calls Tryz.prog 26 #[.agg #[.int .i64 rv, .int .i64 tag, .slice ar rs.length cr], .agg #[.string fn, .int .i64 fv, .slice af fs.length cf]] w (Merged rv tag (rs.map (·.1)) fn fv (fs.map (·.1)) w) := by
  obtain ⟨i1, hj, hy0, hy1, hy2⟩ := info_parts infoNt
  obtain ⟨i0, hi, hz0, hz1, hz2⟩ := info_parts infoEv
  obtain ⟨w0, hw0⟩ : ∃ w0, w0 = ((w.alloc (.cells #[.int .i64 rv, .int .i64 tag, .slice ar rs.length cr] 24)).alloc (.cells #[.string fn, .int .i64 fv, .slice af fs.length cf] 26)).alloc (.cells #[.int .i64 0, .int .i64 0, .slice none 0 0] 24) := ⟨_, rfl⟩
  have HRB := Lib.hid (show Blk w.heap.size #[.int .i64 rv, .int .i64 tag, .slice ar rs.length cr] 24 w0 from by rw [hw0]; exact ((Blk.new w _ _).alloc _).alloc _)
  have HFB := Lib.hid (show Blk (w.heap.size + 1) #[.string fn, .int .i64 fv, .slice af fs.length cf] 26 w0 from by rw [hw0]; exact (Blk.new' (g := w.heap.size + 1) _ _ _ (by simp)).alloc _)
  have HO := Lib.hid (show Blk (w.heap.size + 2) #[.int .i64 0, .int .i64 0, .slice none 0 0] 24 w0 from by rw [hw0]; exact Blk.new' (g := w.heap.size + 2) _ _ _ (by simp))
  have HL := Lib.hid (show Below w.heap.size w w0 from by rw [hw0]; exact ((below_box w _).alloc (by simp) _).alloc (by simp; omega) _)
  have hs0 : w.heap.size + 3 ≤ w0.heap.size := by rw [hw0]; simp
  have HR := Lib.hid hR; have HF := Lib.hid hF; obtain ⟨n, hn⟩ : ∃ n, n = rs.length := ⟨_, rfl⟩
  obtain ⟨m, hm⟩ : ∃ m, m = fs.length := ⟨_, rfl⟩
  obtain ⟨es, hes⟩ : ∃ es, es = rs.map (·.1) := ⟨_, rfl⟩
  obtain ⟨fes, hfes⟩ : ∃ fes, fes = fs.map (·.1) := ⟨_, rfl⟩
  have HLN := Lib.hid (show es.length = n from by simp [hn, hes])
  have HLM := Lib.hid (show fes.length = m from by simp [hm, hfes])
  have HV1 : Hid (∀ W, Below w.heap.size w W → Calls Tryz.prog 24 #[.agg #[.int .i64 rv, .int .i64 tag, .slice ar n cr]] W fun e w' => e = .returned (.bool (rdOk rv es)) ∧ Below W.heap.size W w') := Lib.hid (fun W hW => by
    have h := valid24 rv tag es ar cr w.heap.size W hW.size (by rw [hes]; exact (HR.out.below hW).evs) (by rw [HLN.out]; omega)
    rw [HLN.out] at h
    exact h)
  have HV2 : Hid (∀ W, Below w.heap.size w W → Calls Tryz.prog 46 #[.agg #[.string fn, .int .i64 fv, .slice af m cf]] W fun e w' => e = .returned (.int .i64 (feedV fn fv fes)) ∧ Below W.heap.size W w') := Lib.hid (fun W hW => by
    have h := valid46 fn fv fes af cf w.heap.size W hW.size (by rw [hfes]; exact (HF.out.below hW).evs) (by rw [HLM.out]; omega)
    rw [HLM.out] at h
    exact h)
  rw [← hes, ← hfes, ← hn, ← hm]; rw [← hn, ← hm] at hw0
  rw [← hn] at HRB hrl
  rw [← hm] at HFB hfl
  have Hn := Lib.hid hn; have Hm := Lib.hid hm; have Hes := Lib.hid hes; have Hfes := Lib.hid hfes; have HSR := Lib.hid hsr; have HSF := Lib.hid hsf; clear hR hF hn hm hes hfes hsr hsf; have y0 : w0.cell? ⟨w.heap.size, 0, none⟩ = some (.int .i64 rv) := HRB.out.cell 0
  have y1 : w0.cell? ⟨w.heap.size, 1, none⟩ = some (.int .i64 tag) := HRB.out.cell 1
  have y2 : w0.cell? ⟨w.heap.size, 2, none⟩ = some (.slice ar n cr) := HRB.out.cell 2
  go_enter Tryz.func26, Tryz.ntmps26
  go_upto_region 1 with (fail)
  rw [← hw0]; clear hw0; go_wp2_with fail
  refine (HV1.out _ HL.out).mono ?_
  rintro e w1 ⟨rfl, hb1⟩; have hs1 := hb1.size; have HRB1 := Lib.hid (HRB.out.below hb1 HRB.out.lt)
  have HFB1 := Lib.hid (HFB.out.below hb1 HFB.out.lt)
  have HO1 := Lib.hid (HO.out.below hb1 HO.out.lt)
  have HL1 := Lib.hid (HL.out.trans (hb1.mono (by omega)))
  clear hb1 y0 y1 y2 HRB HFB HO HL HV1; by_cases hok : rdOk rv es = false
  · have HM : Hid (mergeV rv tag es fn fv fes = (0, 0, [], [], 1)) := Lib.hid (by unfold mergeV; rw [if_pos hok])
    have hnk : (!rdOk rv es) = true := by rw [hok]; rfl
    have r0 : w1.cell? ⟨w.heap.size + 2, 0, none⟩ = some (.int .i64 0) := HO1.out.cell 0
    have r1 : w1.cell? ⟨w.heap.size + 2, 1, none⟩ = some (.int .i64 0) := HO1.out.cell 1
    have r2 : w1.cell? ⟨w.heap.size + 2, 2, none⟩ = some (.slice none 0 0) := HO1.out.cell 2
    have z0 := HO1.out.frozen 0; have z1 := HO1.out.frozen 1; have z2 := HO1.out.frozen 2; go_wp2_with fail
    have B3 := ((HO1.out.set 0 (.int .i64 0)).set 1 (.int .i64 0)).set 2 (.slice none 0 0)
    have L3 := ((HL1.out.setCell (show w.heap.size ≤ (⟨w.heap.size + 2, 0, none⟩ : Addr).block from by show w.heap.size ≤ w.heap.size + 2; omega) (.int .i64 0)).setCell (show w.heap.size ≤ (⟨w.heap.size + 2, 1, none⟩ : Addr).block from by show w.heap.size ≤ w.heap.size + 2; omega) (.int .i64 0)).setCell (show w.heap.size ≤ (⟨w.heap.size + 2, 2, none⟩ : Addr).block from by show w.heap.size ≤ w.heap.size + 2; omega) (.slice none 0 0)
    obtain ⟨W, hW⟩ : ∃ W, W = ((w1.setCell ⟨w.heap.size + 2, 0, none⟩ (.int .i64 0)).setCell ⟨w.heap.size + 2, 1, none⟩ (.int .i64 0)).setCell ⟨w.heap.size + 2, 2, none⟩ (.slice none 0 0) := ⟨_, rfl⟩
    rw [← hW] at B3 L3 ⊢
    clear hW r0 r1 r2 z0 z1 z2; have r0 : W.cell? ⟨w.heap.size + 2, 0, none⟩ = some (.int .i64 0) := B3.cell 0
    have r1 : W.cell? ⟨w.heap.size + 2, 1, none⟩ = some (.int .i64 0) := B3.cell 1
    have r2 : W.cell? ⟨w.heap.size + 2, 2, none⟩ = some (.slice none 0 0) := B3.cell 2
    refine bodyPost_ret (v := .tuple #[.agg #[.int .i64 0, .int .i64 0, .slice none 0 0], .slice none 0 0, .int .i64 1]) (by simp [results, Tryz.results26, go_sem, r0, r1, r2]) rfl ?_
    exact ⟨0, 0, 1, none, 0, [], none, 0, [], rfl, HM.out.symm, RowT.nil _ _, RowN.nil _ _, L3⟩
  · have hok : rdOk rv es = true := by simpa using hok
    have hnk : (!rdOk rv es) = false := by rw [hok]; rfl
    have HOK := Lib.hid hok; have y0 : w1.cell? ⟨w.heap.size + 1, 0, none⟩ = some (.string fn) := HFB1.out.cell 0
    have y1 : w1.cell? ⟨w.heap.size + 1, 1, none⟩ = some (.int .i64 fv) := HFB1.out.cell 1
    have y2 : w1.cell? ⟨w.heap.size + 1, 2, none⟩ = some (.slice af m cf) := HFB1.out.cell 2
    go_wp2_with fail
    refine (HV2.out _ HL1.out).mono ?_
    rintro e w2 ⟨rfl, hb2⟩; have hs2 := hb2.size; have HRB2 := Lib.hid (HRB1.out.below hb2 HRB1.out.lt)
    have HFB2 := Lib.hid (HFB1.out.below hb2 HFB1.out.lt)
    have HO2 := Lib.hid (HO1.out.below hb2 HO1.out.lt)
    have HL2 := Lib.hid (HL1.out.trans (hb2.mono (by omega)))
    clear hb2 y0 y1 y2 HRB1 HFB1 HO1 HL1 HV2 hnk; obtain ⟨FV, hFV⟩ : ∃ FV, FV = feedV fn fv fes := ⟨_, rfl⟩
    have HFV := Lib.hid hFV; rw [← hFV]; clear hFV; by_cases hfv : FV ≠ 0
    · have HM : Hid (mergeV rv tag es fn fv fes = (0, 0, [], [], FV)) := Lib.hid (by unfold mergeV; rw [if_neg (by rw [HOK.out]; simp), ← HFV.out, if_pos hfv])
      have r0 : w2.cell? ⟨w.heap.size + 2, 0, none⟩ = some (.int .i64 0) := HO2.out.cell 0
      have r1 : w2.cell? ⟨w.heap.size + 2, 1, none⟩ = some (.int .i64 0) := HO2.out.cell 1
      have r2 : w2.cell? ⟨w.heap.size + 2, 2, none⟩ = some (.slice none 0 0) := HO2.out.cell 2
      have z0 := HO2.out.frozen 0; have z1 := HO2.out.frozen 1; have z2 := HO2.out.frozen 2; go_wp2_with fail
      have B3 := ((HO2.out.set 0 (.int .i64 0)).set 1 (.int .i64 0)).set 2 (.slice none 0 0)
      have L3 := ((HL2.out.setCell (show w.heap.size ≤ (⟨w.heap.size + 2, 0, none⟩ : Addr).block from by show w.heap.size ≤ w.heap.size + 2; omega) (.int .i64 0)).setCell (show w.heap.size ≤ (⟨w.heap.size + 2, 1, none⟩ : Addr).block from by show w.heap.size ≤ w.heap.size + 2; omega) (.int .i64 0)).setCell (show w.heap.size ≤ (⟨w.heap.size + 2, 2, none⟩ : Addr).block from by show w.heap.size ≤ w.heap.size + 2; omega) (.slice none 0 0)
      obtain ⟨W, hW⟩ : ∃ W, W = ((w2.setCell ⟨w.heap.size + 2, 0, none⟩ (.int .i64 0)).setCell ⟨w.heap.size + 2, 1, none⟩ (.int .i64 0)).setCell ⟨w.heap.size + 2, 2, none⟩ (.slice none 0 0) := ⟨_, rfl⟩
      rw [← hW] at B3 L3 ⊢
      clear hW r0 r1 r2 z0 z1 z2; have r0 : W.cell? ⟨w.heap.size + 2, 0, none⟩ = some (.int .i64 0) := B3.cell 0
      have r1 : W.cell? ⟨w.heap.size + 2, 1, none⟩ = some (.int .i64 0) := B3.cell 1
      have r2 : W.cell? ⟨w.heap.size + 2, 2, none⟩ = some (.slice none 0 0) := B3.cell 2
      refine bodyPost_ret (v := .tuple #[.agg #[.int .i64 0, .int .i64 0, .slice none 0 0], .slice none 0 0, .int .i64 FV]) (by simp [results, Tryz.results26, go_sem, r0, r1, r2]) rfl ?_
      exact ⟨0, 0, FV, none, 0, [], none, 0, [], rfl, HM.out.symm, RowT.nil _ _, RowN.nil _ _, L3⟩
    · have hfv : FV = 0 := Decidable.of_not_not hfv
      subst hfv; have y0 : w2.cell? ⟨w.heap.size, 0, none⟩ = some (.int .i64 rv) := HRB2.out.cell 0
      have y1 : w2.cell? ⟨w.heap.size, 1, none⟩ = some (.int .i64 tag) := HRB2.out.cell 1
      have y2 : w2.cell? ⟨w.heap.size, 2, none⟩ = some (.slice ar n cr) := HRB2.out.cell 2
      have f1 : w2.cell? ⟨w.heap.size + 1, 1, none⟩ = some (.int .i64 fv) := HFB2.out.cell 1
      have hls : n ≤ 256 ∧ m ≤ 256 ∧ 0 ≤ fv := by
        have h1 := (rdOk_iff rv es).1 HOK.out
        have h2 := feedV_ok HFV.out.symm
        rw [HLN.out] at h1
        rw [HLM.out] at h2
        omega
      obtain ⟨S, hS⟩ : ∃ S, S = w2.heap.size := ⟨_, rfl⟩
      obtain ⟨w3, hw3⟩ : ∃ w3, w3 = w2.alloc (.cells #[.int .i64 rv, .int .i64 tag, .slice none 0 0] 24) := ⟨_, rfl⟩
      have HB3 := Lib.hid (show Blk S #[.int .i64 rv, .int .i64 tag, .slice none 0 0] 24 w3 from by rw [hw3, hS]; exact Blk.new w2 _ _)
      have HO3 := Lib.hid (show Blk (w.heap.size + 2) #[.int .i64 0, .int .i64 0, .slice none 0 0] 24 w3 from by rw [hw3]; exact HO2.out.alloc _)
      have HRB3 := Lib.hid (show Blk w.heap.size #[.int .i64 rv, .int .i64 tag, .slice ar n cr] 24 w3 from by rw [hw3]; exact HRB2.out.alloc _)
      have HFB3 := Lib.hid (show Blk (w.heap.size + 1) #[.string fn, .int .i64 fv, .slice af m cf] 26 w3 from by rw [hw3]; exact HFB2.out.alloc _)
      have HL3 := Lib.hid (show Below w.heap.size w w3 from by rw [hw3]; exact HL2.out.alloc (by omega) _)
      have hNS : w.heap.size ≤ S := by omega
      have hNS2 : w.heap.size + 3 ≤ S := by omega
      go_upto_region 7 with (fail)
      rw [← hw3, ← hS]; clear hw3 hS y0 y1 y2 f1 HRB2 HFB2 HO2 HL2; have y2 : w3.cell? ⟨w.heap.size, 2, none⟩ = some (.slice ar n cr) := HRB3.out.cell 2
      go_wp2_with fail
      clear y2; go_loopw [35] (fun iv wr => ∃ (k : Nat) (pu : Option Addr) (cu : Nat) (ts : List (Ev × Value × Value)), iv = .int .i64 k ∧ k ≤ n ∧ Hid (Blk S #[.int .i64 rv, .int .i64 tag, .slice pu ts.length cu] 24 wr) ∧ Hid (Blk (w.heap.size + 2) #[.int .i64 0, .int .i64 0, .slice none 0 0] 24 wr) ∧ Hid (Blk w.heap.size #[.int .i64 rv, .int .i64 tag, .slice ar n cr] 24 wr) ∧ Hid (Blk (w.heap.size + 1) #[.string fn, .int .i64 fv, .slice af m cf] 26 wr) ∧ Hid (RowT w.heap.size wr (.slice pu ts.length cu) ts) ∧ Hid (ts.map (·.1) = es.take k) ∧ Hid (Below w.heap.size w wr)) (fun iv _ => n - (intOf iv).toNat)
      case atStart => exact ⟨0, none, 0, [], rfl, Nat.zero_le _, HB3, HO3, HRB3, HFB3, Lib.hid (RowT.nil _ _), Lib.hid rfl, HL3⟩
      case round =>
        clear HB3 HO3 HRB3 HFB3 HL3; obtain ⟨k, pu, cu, ts, rfl, hk, HB, HO, HRB, HFB, HT, HM, HL⟩ := hrel; have hNr : w.heap.size ≤ wr.heap.size := HL.out.size
        have hSr : S < wr.heap.size := HB.out.lt
        by_cases hlt : k < n
        · have hlti : (k : Int) < n := by omega
          have HTL := Lib.hid (show ts.length = k from by have h := congrArg List.length HM.out; simp only [List.length_map, List.length_take, HLN.out] at h; omega)
          obtain ⟨t, ht⟩ : ∃ t, rs[k]? = some t := ⟨_, List.getElem?_eq_getElem (by rw [← Hn.out]; exact hlt)⟩
          obtain ⟨e, va, vb⟩ := t; obtain ⟨bf, of, haf, hbf, hcf⟩ : ∃ b o, ar = some ⟨b, o, none⟩ ∧ b < w.heap.size ∧ ∀ (j : Nat) (u : Value), (tCells rs)[j]? = some u → w.cell? ⟨b, o + j, none⟩ = some u := by
            rcases HR.out.at' with h | h
            · rw [h] at ht; simp at ht
            · exact h
          subst haf; have hev := (seg_c hcf k _ ht).below hbf HL.out
          have HRE0 := HR.out.ref _ (List.mem_of_getElem? ht)
          obtain ⟨hEB, ⟨pe, ke, hva, hia⟩, ⟨pf, kf, hvb, hib⟩⟩ := id HRE0
          simp only at hva hvb hia hib
          subst hva; subst hvb; have HEB := Lib.hid hEB; have HLE := Lib.hid (HSR.out _ (List.mem_of_getElem? ht))
          have HFK := Lib.hid (show es[k]? = some e from by rw [Hes.out, List.getElem?_map, ht]; rfl)
          obtain ⟨c0, c1, c2, c3, c4, c5, c6, c7, c8, c9, c10, c11, c12⟩ := hev; simp only at c0 c1 c2 c3 c4 c5 c6 c7 c8 c9 c10 c11 c12
          obtain ⟨X, hX⟩ : ∃ X, X = wr.alloc (.cells #[.string e.uid, .int .i64 e.seq, .bool e.canc, .int .i64 e.days.first, .int .i64 e.days.last, .int .i64 e.days.every, .int .i64 e.days.wd, .slice pe e.days.ex.length ke, .slice pf e.days.xt.length kf, .int .i64 e.start, .int .i64 e.mins, .string e.summ, .string e.loc] 82) := ⟨_, rfl⟩
          have HXE := Lib.hid (show Blk wr.heap.size (evCells e (.slice pe e.days.ex.length ke) (.slice pf e.days.xt.length kf)) 82 X from by rw [hX]; exact Blk.new wr _ _)
          have HX := Lib.hid (show Below wr.heap.size wr X from by rw [hX]; exact below_box wr _)
          have hXs : X.heap.size = wr.heap.size + 1 := by rw [hX]; simp
          have hXs1 : wr.heap.size < X.heap.size := by omega
          have hNX : w.heap.size ≤ X.heap.size := by omega
          have HLX := Lib.hid (HL.out.trans (HX.out.mono hNr))
          have HIA := Lib.hid (hia.below HLX.out)
          have HIB := Lib.hid (hib.below HLX.out)
          have HBX := Lib.hid (HB.out.below HX.out hSr)
          have HTX := Lib.hid (HT.out.made HX.out)
          have HOX := Lib.hid (HO.out.below HX.out HO.out.lt)
          have HRX := Lib.hid (HRB.out.below HX.out HRB.out.lt)
          have HFX := Lib.hid (HFB.out.below HX.out HFB.out.lt)
          clear hEB hia hib HRE0 ht hcf hXs; go_upto_region 10 with (fail)
          rw [← hX]; clear hX c0 c1 c2 c3 c4 c5 c6 c7 c8 c9 c10 c11 c12 HB HT HO HRB HFB HL; refine wp_region_tail 5 (by kernel_rfl) (fun listed a x => ∃ (l0 l1 l2 l3 l4 : Bool) (t39 t40 t41 t42 t43 : Value), listed = #[l0, l1, l2, l3, l4, false, false, false] ∧ a = ⟨(.agg #[.int .i64 rv, .int .i64 tag, .slice (some ⟨bf, of, none⟩) n cr] :: .agg #[.string fn, .int .i64 fv, .slice af m cf] :: .pointer (some ⟨w.heap.size, 0, none⟩) :: .pointer (some ⟨w.heap.size + 1, 0, none⟩) :: .pointer (some ⟨w.heap.size + 1 + 1, 0, none⟩) :: .slice none 0 0 :: .int .i64 0 :: .int .i64 0 :: .pointer (some ⟨S, 0, none⟩) :: undef :: .pointer (some ⟨wr.heap.size, 0, none⟩) :: undef :: undef :: undef :: undef :: undef :: undef :: .agg #[.int .i64 rv, .int .i64 tag, .slice (some ⟨bf, of, none⟩) n cr] :: .bool true :: .bool false :: undef :: .agg #[.string fn, .int .i64 fv, .slice af m cf] :: .int .i64 0 :: .int .i64 0 :: .bool false :: undef :: undef :: .pointer (some ⟨w.heap.size, 0, none⟩) :: .int .i64 rv :: .pointer (some ⟨w.heap.size, 1, none⟩) :: .int .i64 tag :: .agg #[.int .i64 rv, .int .i64 tag, .slice none 0 0] :: .pointer (some ⟨w.heap.size, 2, none⟩) :: .slice (some ⟨bf, of, none⟩) n cr :: .int .i64 n :: .int .i64 k :: .bool true :: .pointer (some ⟨bf, of + k * 13, none⟩) :: .agg #[.string e.uid, .int .i64 e.seq, .bool e.canc, .int .i64 e.days.first, .int .i64 e.days.last, .int .i64 e.days.every, .int .i64 e.days.wd, .slice pe e.days.ex.length ke, .slice pf e.days.xt.length kf, .int .i64 e.start, .int .i64 e.mins, .string e.summ, .string e.loc] :: t39 :: t40 :: t41 :: t42 :: t43 :: u44 :: u45 :: u46 :: undef :: undef :: undef :: undef :: undef :: undef :: undef :: undef :: undef :: undef :: undef :: undef :: undef :: undef :: undef :: undef :: undef :: undef :: undef :: undef :: undef :: undef :: undef :: undef :: undef :: undef :: undef :: undef :: undef :: undef :: undef :: undef :: undef :: undef :: undef :: undef :: undef :: undef :: undef :: undef :: undef :: undef :: undef :: undef :: undef :: undef :: undef :: undef :: undef :: undef :: undef :: undef :: undef :: undef :: undef :: undef :: undef :: undef :: undef :: undef :: undef :: undef :: undef :: undef :: undef :: undef :: undef :: undef :: undef :: undef :: undef :: undef :: undef :: undef :: undef :: undef :: undef :: undef :: undef :: undef :: []).toArray, []⟩ ∧ Hid (l0 = true → t39 = .pointer (some ⟨S, 2, none⟩)) ∧ Hid (l1 = true → t40 = .slice pu ts.length cu) ∧ Hid (l2 = true → t41 = .agg #[.string e.uid, .int .i64 e.seq, .bool e.canc, .int .i64 e.days.first, .int .i64 e.days.last, .int .i64 e.days.every, .int .i64 e.days.wd, .slice pe e.days.ex.length ke, .slice pf e.days.xt.length kf, .int .i64 e.start, .int .i64 e.mins, .string e.summ, .string e.loc]) ∧ Hid (l3 = true → l4 = false → ∃ (q : Option Addr) (d : Nat) (q2 : Option Addr) (d2 : Nat), t42 = evVal e (.slice q e.days.ex.length d) (.slice q2 e.days.xt.length d2) ∧ RowI X.heap.size x (.slice q e.days.ex.length d) e.days.ex ∧ RowI X.heap.size x (.slice q2 e.days.xt.length d2) e.days.xt) ∧ Hid (l4 = true → ∃ (q : Option Addr) (d : Nat) (q2 : Option Addr) (d2 : Nat) (g : Nat), t43 = .slice (some ⟨g, 0, none⟩) 1 1 ∧ X.heap.size ≤ g ∧ Blk g (evCells e (.slice q e.days.ex.length d) (.slice q2 e.days.xt.length d2)) 82 x ∧ RowI X.heap.size x (.slice q e.days.ex.length d) e.days.ex ∧ RowI X.heap.size x (.slice q2 e.days.xt.length d2) e.days.xt) ∧ Hid (Made X x)) (by decide) (by kernel_rfl) (by kernel_rfl) ?_ ?_ ?_ ?_
          · exact ⟨false, false, false, false, false, _, _, _, _, _, rfl, rfl, Lib.hid (fun h => by cases h), Lib.hid (fun h => by cases h), Lib.hid (fun h => by cases h), Lib.hid (fun h => by cases h), Lib.hid (fun h => by cases h), Lib.hid (Made.start X)⟩
          · intro listed a x hj; obtain ⟨l0, hj⟩ := hj
            obtain ⟨l1, hj⟩ := hj; obtain ⟨l2, hj⟩ := hj; obtain ⟨l3, hj⟩ := hj; obtain ⟨l4, hj⟩ := hj; obtain ⟨t39, hj⟩ := hj; obtain ⟨t40, hj⟩ := hj; obtain ⟨t41, hj⟩ := hj; obtain ⟨t42, hj⟩ := hj; obtain ⟨t43, hj⟩ := hj; obtain ⟨h1, -⟩ := hj; subst h1; exact ⟨rfl, fun k h1 h2 => by (have h2 : k < 8 := h2); rcases (show k = 5 ∨ k = 6 ∨ k = 7 by omega) with rfl | rfl | rfl <;> rfl⟩
          · intro listed a x i hj hlt hu haf; obtain ⟨l0, hj⟩ := hj
            obtain ⟨l1, hj⟩ := hj; obtain ⟨l2, hj⟩ := hj; obtain ⟨l3, hj⟩ := hj; obtain ⟨l4, hj⟩ := hj; obtain ⟨t39, hj⟩ := hj; obtain ⟨t40, hj⟩ := hj; obtain ⟨t41, hj⟩ := hj; obtain ⟨t42, hj⟩ := hj; obtain ⟨t43, hj⟩ := hj; obtain ⟨hl_, hj⟩ := hj; obtain ⟨ha_, hj⟩ := hj; obtain ⟨H0, hj⟩ := hj; obtain ⟨H1, hj⟩ := hj; obtain ⟨H2, hj⟩ := hj; obtain ⟨H3, hj⟩ := hj; obtain ⟨H4, hj⟩ := hj; have HS := hj; clear hj; subst hl_; subst ha_; rcases (show ∀ i : Nat, i < 5 → (i = 0 ∨ i = 1 ∨ i = 2 ∨ i = 3 ∨ i = 4) by decide) i hlt with rfl | rfl | rfl | rfl | rfl
            · have haf := haf _ rfl; clear haf
              have hu : l0 = false := hu
              refine wpOp_of_list_any rfl fun QQ hQ => ?_
              have hQQ := Lib.hid hQ; clear hQ; simp only [List.getElem_toArray, List.getElem_cons_zero]
              go_wp2_with fail
              exact hQQ.out _ _ ⟨true, l1, l2, l3, l4, _, _, _, _, _, rfl, rfl, Lib.hid (fun _ => rfl), H1, H2, H3, H4, HS⟩
            · have haf := haf _ rfl; have q0 : l0 = true := haf ⟨0, Go.Ground.data⟩ (by simp) rfl
              clear haf; have hu : l1 = false := hu
              have e0 := (H0.out q0)
              subst e0; clear H0; have hc : x.cell? ⟨S, 2, none⟩ = some (.slice pu ts.length cu) := (HS.out.blk HBX.out).cell 2
              refine wpOp_of_list_any rfl fun QQ hQ => ?_
              have hQQ := Lib.hid hQ; clear hQ; simp only [List.getElem_toArray, List.getElem_cons_zero, List.getElem_cons_succ]
              go_wp2_with fail
              exact hQQ.out _ _ ⟨l0, true, l2, l3, l4, _, _, _, _, _, rfl, rfl, Lib.hid (fun _ => rfl), Lib.hid (fun _ => rfl), H2, H3, H4, HS⟩
            · have haf := haf _ rfl; clear haf
              have hu : l2 = false := hu
              have y0 : x.cell? ⟨wr.heap.size, 0, none⟩ = some (.string e.uid) := (HS.out.blk HXE.out).cell 0
              have y1 : x.cell? ⟨wr.heap.size, 1, none⟩ = some (.int .i64 e.seq) := (HS.out.blk HXE.out).cell 1
              have y2 : x.cell? ⟨wr.heap.size, 2, none⟩ = some (.bool e.canc) := (HS.out.blk HXE.out).cell 2
              have y3 : x.cell? ⟨wr.heap.size, 3, none⟩ = some (.int .i64 e.days.first) := (HS.out.blk HXE.out).cell 3
              have y4 : x.cell? ⟨wr.heap.size, 4, none⟩ = some (.int .i64 e.days.last) := (HS.out.blk HXE.out).cell 4
              have y5 : x.cell? ⟨wr.heap.size, 5, none⟩ = some (.int .i64 e.days.every) := (HS.out.blk HXE.out).cell 5
              have y6 : x.cell? ⟨wr.heap.size, 6, none⟩ = some (.int .i64 e.days.wd) := (HS.out.blk HXE.out).cell 6
              have y7 : x.cell? ⟨wr.heap.size, 7, none⟩ = some (.slice pe e.days.ex.length ke) := (HS.out.blk HXE.out).cell 7
              have y8 : x.cell? ⟨wr.heap.size, 8, none⟩ = some (.slice pf e.days.xt.length kf) := (HS.out.blk HXE.out).cell 8
              have y9 : x.cell? ⟨wr.heap.size, 9, none⟩ = some (.int .i64 e.start) := (HS.out.blk HXE.out).cell 9
              have y10 : x.cell? ⟨wr.heap.size, 10, none⟩ = some (.int .i64 e.mins) := (HS.out.blk HXE.out).cell 10
              have y11 : x.cell? ⟨wr.heap.size, 11, none⟩ = some (.string e.summ) := (HS.out.blk HXE.out).cell 11
              have y12 : x.cell? ⟨wr.heap.size, 12, none⟩ = some (.string e.loc) := (HS.out.blk HXE.out).cell 12
              refine wpOp_of_list_any rfl fun QQ hQ => ?_
              have hQQ := Lib.hid hQ; clear hQ; simp only [List.getElem_toArray, List.getElem_cons_zero, List.getElem_cons_succ]
              go_wp2_with fail
              exact hQQ.out _ _ ⟨l0, l1, true, l3, l4, _, _, _, _, _, rfl, rfl, H0, H1, Lib.hid (fun _ => rfl), H3, H4, HS⟩
            · have haf := haf _ rfl; have q2 : l2 = true := haf ⟨2, Go.Ground.data⟩ (by simp) rfl
              clear haf; have hu : l3 = false := hu
              have e2 := (H2.out q2)
              subst e2; clear H2; refine wpOp_of_list_any rfl fun QQ hQ => ?_
              have hQQ := Lib.hid hQ; clear hQ; simp only [List.getElem_toArray, List.getElem_cons_zero, List.getElem_cons_succ]
              go_wp2_with fail
              refine (show Calls Tryz.prog 80 #[.agg #[.string e.uid, .int .i64 e.seq, .bool e.canc, .int .i64 e.days.first, .int .i64 e.days.last, .int .i64 e.days.every, .int .i64 e.days.wd, .slice pe e.days.ex.length ke, .slice pf e.days.xt.length kf, .int .i64 e.start, .int .i64 e.mins, .string e.summ, .string e.loc]] x (Twin e x) from twin80 e pe pf ke kf x ((HIA.out.below (HS.out.below.mono hNX)).mono (Nat.le_trans hNX HS.out.below.size)) ((HIB.out.below (HS.out.below.mono hNX)).mono (Nat.le_trans hNX HS.out.below.size)) HLE.out.1 HLE.out.2).mono ?_
              rintro y x1 ⟨q, d, q2, d2, rfl, hX, hY, hb1⟩; have hk := Kept.made (B := X.heap.size) hb1
              have HS1 := Lib.hid (HS.out.then hb1)
              have HX1 := Lib.hid (ownsRow_mono hX HS.out.below.size)
              have HY1 := Lib.hid (ownsRow_mono hY HS.out.below.size)
              clear hb1 hX hY; go_wp2_with fail
              exact hQQ.out _ _ ⟨l0, l1, l2, true, l4, _, _, _, _, _, rfl, rfl, H0, H1, Lib.hid (fun _ => rfl), Lib.hid (fun _ _ => ⟨q, d, q2, d2, rfl, HX1.out, HY1.out⟩), Lib.hid (fun h => (by obtain ⟨q, d, q2, d2, g, e, c0, c1, c2, c3⟩ := H4.out h; exact ⟨q, d, q2, d2, g, e, c0, (hk _ _ _ c0 c1), (row_kept c2 hk), (row_kept c3 hk)⟩)), HS1⟩
            · have haf := haf _ rfl; have q3 : l3 = true := haf ⟨3, Go.Ground.data⟩ (by simp) rfl
              clear haf; have hu : l4 = false := hu
              obtain ⟨q3, d3, q23, d23, e3, c3_0, c3_1⟩ := (H3.out q3 hu)
              subst e3; clear H3; unfold evVal evCells
              have HX1 := Lib.hid c3_0; have HY1 := Lib.hid c3_1; refine wpOp_of_list_any rfl fun QQ hQ => ?_
              have hQQ := Lib.hid hQ; clear hQ; simp only [List.getElem_toArray, List.getElem_cons_zero, List.getElem_cons_succ]
              go_wp2_with fail
              exact hQQ.out _ _ ⟨l0, l1, l2, l3, true, _, _, _, _, _, rfl, rfl, H0, H1, H2, Lib.hid (fun _ h => by cases h), Lib.hid (fun _ => ⟨q3, d3, q23, d23, _, rfl, HS.out.below.size, Blk.new x _ _, World.ownsRow.alloc HX1.out _, World.ownsRow.alloc HY1.out _⟩), Lib.hid (HS.out.alloc _)⟩
          · intro listed a x hj hall; obtain ⟨l0, hj⟩ := hj
            obtain ⟨l1, hj⟩ := hj; obtain ⟨l2, hj⟩ := hj; obtain ⟨l3, hj⟩ := hj; obtain ⟨l4, hj⟩ := hj; obtain ⟨t39, hj⟩ := hj; obtain ⟨t40, hj⟩ := hj; obtain ⟨t41, hj⟩ := hj; obtain ⟨t42, hj⟩ := hj; obtain ⟨t43, hj⟩ := hj; obtain ⟨hl_, hj⟩ := hj; obtain ⟨ha_, hj⟩ := hj; obtain ⟨H0, hj⟩ := hj; obtain ⟨H1, hj⟩ := hj; obtain ⟨H2, hj⟩ := hj; obtain ⟨H3, hj⟩ := hj; obtain ⟨H4, hj⟩ := hj; have HS := hj; clear hj; subst hl_; subst ha_; have q1 : l1 = true := hall 1 (by omega)
            have q4 : l4 = true := hall 4 (by omega)
            clear hall; have e1 := (H1.out q1)
            subst e1; obtain ⟨q4, d4, q24, d24, g4, e4, c4_0, c4_1, c4_2, c4_3⟩ := (H4.out q4)
            subst e4; have HT1 := HTX.out.made HS.out.below
            have HB1 := HS.out.blk HBX.out
            have HO1 := HS.out.blk HOX.out
            have HR1 := HS.out.blk HRX.out
            have HF1 := HS.out.blk HFX.out
            have HL1 := HLX.out.trans (HS.out.below.mono hNX)
            have hRf : RefT w.heap.size x (e, (.slice q4 e.days.ex.length d4), (.slice q24 e.days.xt.length d24)) := ⟨HEB.out, ownsRow_mono c4_2 hNX, ownsRow_mono c4_3 hNX⟩
            have HTH := Lib.hid HT1; have HBH := Lib.hid HB1; have HOH := Lib.hid HO1; have HRH := Lib.hid HR1; have HFH := Lib.hid HF1; have HLH := Lib.hid HL1; have HRfH := Lib.hid hRf; have hlx := HL1.size; clear HT1 HB1 HO1 HR1 HF1 HL1 hRf c4_2 c4_3; have hA1 : ts.length + 1 ≤ maxLen := by have := HTL.out; unfold maxLen; omega
            have hA2 : (ts.length + 1) * 160 ≤ 140737488355328 := by have := HTL.out; omega
            refine tail_any (fun a x => ∃ (t39 t40 t41 t42 t43 t44 t45 : Value), a = ⟨(.agg #[.int .i64 rv, .int .i64 tag, .slice (some ⟨bf, of, none⟩) n cr] :: .agg #[.string fn, .int .i64 fv, .slice af m cf] :: .pointer (some ⟨w.heap.size, 0, none⟩) :: .pointer (some ⟨w.heap.size + 1, 0, none⟩) :: .pointer (some ⟨w.heap.size + 1 + 1, 0, none⟩) :: .slice none 0 0 :: .int .i64 0 :: .int .i64 0 :: .pointer (some ⟨S, 0, none⟩) :: undef :: .pointer (some ⟨wr.heap.size, 0, none⟩) :: undef :: undef :: undef :: undef :: undef :: undef :: .agg #[.int .i64 rv, .int .i64 tag, .slice (some ⟨bf, of, none⟩) n cr] :: .bool true :: .bool false :: undef :: .agg #[.string fn, .int .i64 fv, .slice af m cf] :: .int .i64 0 :: .int .i64 0 :: .bool false :: undef :: undef :: .pointer (some ⟨w.heap.size, 0, none⟩) :: .int .i64 rv :: .pointer (some ⟨w.heap.size, 1, none⟩) :: .int .i64 tag :: .agg #[.int .i64 rv, .int .i64 tag, .slice none 0 0] :: .pointer (some ⟨w.heap.size, 2, none⟩) :: .slice (some ⟨bf, of, none⟩) n cr :: .int .i64 n :: .int .i64 k :: .bool true :: .pointer (some ⟨bf, of + k * 13, none⟩) :: .agg #[.string e.uid, .int .i64 e.seq, .bool e.canc, .int .i64 e.days.first, .int .i64 e.days.last, .int .i64 e.days.every, .int .i64 e.days.wd, .slice pe e.days.ex.length ke, .slice pf e.days.xt.length kf, .int .i64 e.start, .int .i64 e.mins, .string e.summ, .string e.loc] :: t39 :: t40 :: t41 :: t42 :: t43 :: t44 :: t45 :: u46 :: undef :: undef :: undef :: undef :: undef :: undef :: undef :: undef :: undef :: undef :: undef :: undef :: undef :: undef :: undef :: undef :: undef :: undef :: undef :: undef :: undef :: undef :: undef :: undef :: undef :: undef :: undef :: undef :: undef :: undef :: undef :: undef :: undef :: undef :: undef :: undef :: undef :: undef :: undef :: undef :: undef :: undef :: undef :: undef :: undef :: undef :: undef :: undef :: undef :: undef :: undef :: undef :: undef :: undef :: undef :: undef :: undef :: undef :: undef :: undef :: undef :: undef :: undef :: undef :: undef :: undef :: undef :: undef :: undef :: undef :: undef :: undef :: undef :: undef :: undef :: undef :: undef :: undef :: undef :: undef :: []).toArray, []⟩ ∧ ∃ (pu2 : Option Addr) (cu2 : Nat) (t : Ev × Value × Value), t.1 = e ∧ Blk S #[.int .i64 rv, .int .i64 tag, .slice pu2 (ts.length + 1) cu2] 24 x ∧ Blk (w.heap.size + 2) #[.int .i64 0, .int .i64 0, .slice none 0 0] 24 x ∧ Blk w.heap.size #[.int .i64 rv, .int .i64 tag, .slice (some ⟨bf, of, none⟩) n cr] 24 x ∧ Blk (w.heap.size + 1) #[.string fn, .int .i64 fv, .slice af m cf] 26 x ∧ RowT w.heap.size x (.slice pu2 (ts.length + 1) cu2) (ts ++ [t]) ∧ Below w.heap.size w x) ?_ fun QQ hQ => ?_
            · intro a x hpost; obtain ⟨t39, hpost⟩ := hpost
              obtain ⟨t40, hpost⟩ := hpost; obtain ⟨t41, hpost⟩ := hpost; obtain ⟨t42, hpost⟩ := hpost; obtain ⟨t43, hpost⟩ := hpost; obtain ⟨t44, hpost⟩ := hpost; obtain ⟨t45, hpost⟩ := hpost; obtain ⟨ha_, hpost⟩ := hpost; subst ha_; obtain ⟨pu2, cu2, t, rfl, p1, p2, p3, p4, p5, p6⟩ := hpost; have HM2 := Lib.hid (show (ts ++ [t]).map (·.1) = es.take (k + 1) from by
                obtain ⟨h1, h2⟩ := List.getElem?_eq_some_iff.1 HFK.out
                rw [List.map_append, HM.out, List.take_succ_eq_append_getElem h1, h2]
                rfl)
              have hl1 : (ts ++ [t]).length = ts.length + 1 := by simp
              have P1 := Lib.hid (show Blk S #[.int .i64 rv, .int .i64 tag, .slice pu2 (ts ++ [t]).length cu2] 24 _ from by rw [hl1]; exact p1)
              have P5 := Lib.hid (show RowT w.heap.size _ (.slice pu2 (ts ++ [t]).length cu2) (ts ++ [t]) from by rw [hl1]; exact p5)
              have P2 := Lib.hid p2; have P3 := Lib.hid p3; have P4 := Lib.hid p4; have P6 := Lib.hid p6; clear hl1 p1 p2 p3 p4 p5 p6; go_wp2_with fail
              go_roundw
              case rel => exact ⟨k + 1, pu2, cu2, ts ++ [t], by go_num, by omega, P1, P2, P3, P4, P5, HM2, P6⟩
              case measure => simp [intOf]; omega
            have hQQ := Lib.hid hQ; clear hQ; simp only [List.drop_succ_cons, List.drop_zero]
            go_wp2_with (at_builtin; refine wpList_append_own_at _ rfl (.tmp 40) (.tmp 43) 22 rfl w.heap.size 82 i0 _ 13 160 Tryz.underlying22 hi hz0 hz1 hz2 rfl (by decide) _ _ _ rfl HTH.out.row ⟨g4, 0, none⟩ 1 1 _ rfl rfl (blk_cells c4_1) (evCells_one _ _ _ _ _ _ _) hA1 hA2 hlx ?_)
            intro v' x8 hown8 hgrow _ hat; obtain ⟨p8, q8, hv8⟩ := ownsRow_len hown8
            subst hv8; have S8 := HBH.out.grown HTH.out.row hgrow (by decide)
            have O8 := HOH.out.grown HTH.out.row hgrow (by decide)
            have R8 := HRH.out.grown HTH.out.row hgrow (by decide)
            have F8 := HFH.out.grown HTH.out.row hgrow (by decide)
            have T8 := HTH.out.snoc HRfH.out hgrow hown8
            have L8 := below_grownBy HLH.out HTH.out.row (Nat.le_refl _) hlx hgrow
            have f0 : x8.cell? ⟨S, 2, none⟩ = some (.slice pu ts.length cu) := S8.cell 2
            have z0 := S8.frozen 2; have HS9 := Lib.hid (S8.set 2 (.slice p8 (ts.length + 1) q8))
            have HO9 := Lib.hid (O8.set_other (show w.heap.size + 2 ≠ S by omega) 2 (.slice p8 (ts.length + 1) q8))
            have HR9 := Lib.hid (R8.set_other (show w.heap.size ≠ S by omega) 2 (.slice p8 (ts.length + 1) q8))
            have HF9 := Lib.hid (F8.set_other (show w.heap.size + 1 ≠ S by omega) 2 (.slice p8 (ts.length + 1) q8))
            have HT9 := Lib.hid (T8.set S8 (by decide) (by decide) 2 (.slice p8 (ts.length + 1) q8))
            have HL9 := Lib.hid (L8.setCell (show w.heap.size ≤ (⟨S, 2, none⟩ : Addr).block from hNS) (.slice p8 (ts.length + 1) q8))
            clear hgrow hown8 hat S8 O8 R8 F8 T8 L8 HTH HBH HOH HRH HFH HLH HRfH c4_0 c4_1; go_wp2_with fail
            exact hQQ.out _ _ ⟨_, _, _, _, _, _, _, rfl, _, _, (e, _, _), rfl, HS9.out, HO9.out, HR9.out, HF9.out, HT9.out, HL9.out⟩
        · have hlti : ¬ (k : Int) < n := by omega
          have hkn : k = n := by omega
          have HM := Lib.hid (show ts.map (·.1) = es from by rw [HM.out, hkn, ← HLN.out, List.take_length])
          have HTL := Lib.hid (show ts.length = n from by have h := congrArg List.length HM.out; rw [List.length_map, HLN.out] at h; exact h)
          subst hkn; have f1 : wr.cell? ⟨w.heap.size + 1, 1, none⟩ = some (.int .i64 fv) := HFB.out.cell 1
          have f2 : wr.cell? ⟨w.heap.size + 1, 2, none⟩ = some (.slice af m cf) := HFB.out.cell 2
          have g0 : wr.cell? ⟨w.heap.size, 0, none⟩ = some (.int .i64 rv) := HRB.out.cell 0
          have s0 : wr.cell? ⟨S, 0, none⟩ = some (.int .i64 rv) := HB.out.cell 0
          have q0 := HB.out.frozen 0; by_cases hle : fv ≤ rv
          · have HMV : Hid (mergeV rv tag es fn fv fes = (rv, tag, es, [], 0)) := Lib.hid (by unfold mergeV; rw [if_neg (by rw [HOK.out]; simp), if_neg (by rw [← HFV.out]; simp), if_pos hle])
            have s1 : wr.cell? ⟨S, 1, none⟩ = some (.int .i64 tag) := HB.out.cell 1
            have s2 : wr.cell? ⟨S, 2, none⟩ = some (.slice pu ts.length cu) := HB.out.cell 2
            have r0 : wr.cell? ⟨w.heap.size + 2, 0, none⟩ = some (.int .i64 0) := HO.out.cell 0
            have r1 : wr.cell? ⟨w.heap.size + 2, 1, none⟩ = some (.int .i64 0) := HO.out.cell 1
            have r2 : wr.cell? ⟨w.heap.size + 2, 2, none⟩ = some (.slice none 0 0) := HO.out.cell 2
            have z0 := HO.out.frozen 0; have z1 := HO.out.frozen 1; have z2 := HO.out.frozen 2; go_wp2_with fail
            have B3 := (((HO.out.set 0 (.int .i64 rv)).set 1 (.int .i64 tag)).set 2 (.slice pu ts.length cu))
            have T3 := ((HT.out.set HO.out (by decide) (by decide) 0 (.int .i64 rv)).set (HO.out.set 0 (.int .i64 rv)) (by decide) (by decide) 1 (.int .i64 tag)).set ((HO.out.set 0 (.int .i64 rv)).set 1 (.int .i64 tag)) (by decide) (by decide) 2 (.slice pu ts.length cu)
            have L3 := ((HL.out.setCell (show w.heap.size ≤ (⟨w.heap.size + 2, 0, none⟩ : Addr).block from by show w.heap.size ≤ w.heap.size + 2; omega) (.int .i64 rv)).setCell (show w.heap.size ≤ (⟨w.heap.size + 2, 1, none⟩ : Addr).block from by show w.heap.size ≤ w.heap.size + 2; omega) (.int .i64 tag)).setCell (show w.heap.size ≤ (⟨w.heap.size + 2, 2, none⟩ : Addr).block from by show w.heap.size ≤ w.heap.size + 2; omega) (.slice pu ts.length cu)
            obtain ⟨W, hW⟩ : ∃ W, W = ((wr.setCell ⟨w.heap.size + 2, 0, none⟩ (.int .i64 rv)).setCell ⟨w.heap.size + 2, 1, none⟩ (.int .i64 tag)).setCell ⟨w.heap.size + 2, 2, none⟩ (.slice pu ts.length cu) := ⟨_, rfl⟩
            rw [← hW] at B3 T3 L3 ⊢
            clear hW r0 r1 r2 z0 z1 z2; have r0 : W.cell? ⟨w.heap.size + 2, 0, none⟩ = some (.int .i64 rv) := B3.cell 0
            have r1 : W.cell? ⟨w.heap.size + 2, 1, none⟩ = some (.int .i64 tag) := B3.cell 1
            have r2 : W.cell? ⟨w.heap.size + 2, 2, none⟩ = some (.slice pu ts.length cu) := B3.cell 2
            refine bodyPost_ret (v := .tuple #[.agg #[.int .i64 rv, .int .i64 tag, .slice pu ts.length cu], .slice none 0 0, .int .i64 0]) (by simp [results, Tryz.results26, go_sem, r0, r1, r2]) rfl ?_
            exact ⟨rv, tag, 0, pu, cu, ts, none, 0, [], rfl, by rw [HMV.out, HM.out], T3, RowN.nil _ _, L3⟩
          · obtain ⟨w4, hw4⟩ : ∃ w4, w4 = wr.setCell ⟨S, 0, none⟩ (.int .i64 fv) := ⟨_, rfl⟩
            have HB4 := Lib.hid (show Blk S #[.int .i64 fv, .int .i64 tag, .slice pu ts.length cu] 24 w4 from by rw [hw4]; exact HB.out.set 0 _)
            have HO4 := Lib.hid (show Blk (w.heap.size + 2) #[.int .i64 0, .int .i64 0, .slice none 0 0] 24 w4 from by rw [hw4]; exact HO.out.set_other (by omega) 0 _)
            have HF4 := Lib.hid (show Blk (w.heap.size + 1) #[.string fn, .int .i64 fv, .slice af m cf] 26 w4 from by rw [hw4]; exact HFB.out.set_other (by omega) 0 _)
            have HT4 := Lib.hid (show RowT w.heap.size w4 (.slice pu ts.length cu) ts from by rw [hw4]; exact HT.out.set HB.out (by decide) (by decide) 0 _)
            have HL4 := Lib.hid (show Below w.heap.size w w4 from by rw [hw4]; exact HL.out.setCell (show w.heap.size ≤ (⟨S, 0, none⟩ : Addr).block from hNS) _)
            have HEO := Lib.hid (show evsV fv none fes = 0 ∧ evsV rv none es = 0 ∧ rv ≤ fv from ⟨(feedV_ok HFV.out.symm).2.2.2, ((rdOk_iff rv es).1 HOK.out).2.2.2, by omega⟩)
            go_upto_region 15 with (fail)
            rw [← hw4]; clear hw4 s0 q0 g0 f1 f2 HB HO HRB HFB HT HL; have f2 : w4.cell? ⟨w.heap.size + 1, 2, none⟩ = some (.slice af m cf) := HF4.out.cell 2
            go_wp2_with fail
            clear f2; go_loopw [11, 59] (fun s11 iv wr => ∃ (j : Nat) (pu : Option Addr) (cu : Nat) (ts : List (Ev × Value × Value)) (pn : Option Addr) (cn : Nat) (ns : List Nt), s11 = .slice pn ns.length cn ∧ iv = .int .i64 j ∧ j ≤ m ∧ Hid (Blk S #[.int .i64 fv, .int .i64 tag, .slice pu ts.length cu] 24 wr) ∧ Hid (Blk (w.heap.size + 2) #[.int .i64 0, .int .i64 0, .slice none 0 0] 24 wr) ∧ Hid (RowT w.heap.size wr (.slice pu ts.length cu) ts) ∧ Hid (RowN w.heap.size wr (.slice pn ns.length cn) ns) ∧ Hid ((ts.map (·.1), ns) = mrg es (fes.take j)) ∧ Hid (Below w.heap.size w wr)) (fun _ iv _ => m - (intOf iv).toNat)
            case atStart => exact ⟨0, pu, cu, ts, none, 0, [], rfl, rfl, Nat.zero_le _, HB4, HO4, HT4, Lib.hid (RowN.nil _ _), Lib.hid (by rw [HM.out]; rfl), HL4⟩
            case round =>
              clear HB4 HO4 HF4 HT4 HL4 HM HTL; obtain ⟨j, hrel⟩ := hrel; obtain ⟨pu, hrel⟩ := hrel; obtain ⟨cu, hrel⟩ := hrel; obtain ⟨ts, hrel⟩ := hrel; obtain ⟨pn, hrel⟩ := hrel; obtain ⟨cn, hrel⟩ := hrel; obtain ⟨ns, rfl, rfl, hjm, HB, HO, HT, HNt, HM, HL⟩ := hrel; have hml := mrg_len es fes j (by rw [HLM.out]; exact hjm)
              rw [← HM.out, HLN.out] at hml
              have HQ := Lib.hid (show ts.length ≤ 600 ∧ ns.length ≤ 600 from by have h1 := hml.1; have h2 := hml.2; simp only [List.length_map] at h1 h2; omega)
              clear hml; have hNr : w.heap.size ≤ wr.heap.size := HL.out.size
              have hSr : S < wr.heap.size := HB.out.lt
              by_cases hlt : j < m
              · have hlti : (j : Int) < m := by omega
                obtain ⟨t, ht⟩ : ∃ t, fs[j]? = some t := ⟨_, List.getElem?_eq_getElem (by rw [← Hm.out]; exact hlt)⟩
                obtain ⟨e, va, vb⟩ := t; obtain ⟨bf, of, haf, hbf, hcf⟩ : ∃ b o, af = some ⟨b, o, none⟩ ∧ b < w.heap.size ∧ ∀ (j : Nat) (u : Value), (tCells fs)[j]? = some u → w.cell? ⟨b, o + j, none⟩ = some u := by
                  rcases HF.out.at' with h | h
                  · rw [h] at ht; simp at ht
                  · exact h
                subst haf; have hev := (seg_c hcf j _ ht).below hbf HL.out
                have HRE0 := HF.out.ref _ (List.mem_of_getElem? ht)
                obtain ⟨hEB, ⟨pe, ke, hva, hia⟩, ⟨pf, kf, hvb, hib⟩⟩ := id HRE0
                simp only at hva hvb hia hib
                subst hva; subst hvb; have HEB := Lib.hid hEB; have HLE := Lib.hid (HSF.out _ (List.mem_of_getElem? ht))
                have HFK := Lib.hid (show fes[j]? = some e from by rw [Hfes.out, List.getElem?_map, ht]; rfl)
                obtain ⟨c0, c1, c2, c3, c4, c5, c6, c7, c8, c9, c10, c11, c12⟩ := hev; simp only at c0 c1 c2 c3 c4 c5 c6 c7 c8 c9 c10 c11 c12
                obtain ⟨X, hX⟩ : ∃ X, X = wr.alloc (.cells #[.string e.uid, .int .i64 e.seq, .bool e.canc, .int .i64 e.days.first, .int .i64 e.days.last, .int .i64 e.days.every, .int .i64 e.days.wd, .slice pe e.days.ex.length ke, .slice pf e.days.xt.length kf, .int .i64 e.start, .int .i64 e.mins, .string e.summ, .string e.loc] 82) := ⟨_, rfl⟩
                have HXE := Lib.hid (show Blk wr.heap.size (evCells e (.slice pe e.days.ex.length ke) (.slice pf e.days.xt.length kf)) 82 X from by rw [hX]; exact Blk.new wr _ _)
                have HX := Lib.hid (show Below wr.heap.size wr X from by rw [hX]; exact below_box wr _)
                have hXs : X.heap.size = wr.heap.size + 1 := by rw [hX]; simp
                have hXs1 : wr.heap.size < X.heap.size := by omega
                have hNX : w.heap.size ≤ X.heap.size := by omega
                have HLX := Lib.hid (HL.out.trans (HX.out.mono hNr))
                have HIA := Lib.hid (hia.below HLX.out)
                have HIB := Lib.hid (hib.below HLX.out)
                have HBX := Lib.hid (HB.out.below HX.out hSr)
                have HTX := Lib.hid (HT.out.made HX.out)
                have HOX := Lib.hid (HO.out.below HX.out HO.out.lt)
                have HNX := Lib.hid (row_made HNt.out HX.out)
                have HRW := Lib.hid (show ∀ g, (Value.slice pu ts.length cu).ownBlock = some g → g < wr.heap.size from fun g hg => (HT.out.row.lt g hg).2)
                clear hEB hia hib HRE0 ht hcf hXs; go_upto_region 19 with (fail)
                rw [← hX]; clear hX HB HT HO HL HNt c0 c1 c2 c3 c4 c5 c6 c7 c8 c9 c10 c11 c12; have HUP := Lib.hid (show UpU (ts.map (·.1)) from evsV_up fv none _ (by have h := mrg_ok HEO.out.2.2 HEO.out.2.1 HEO.out.1 j; rw [← HM.out] at h; exact h))
                have HC : Hid (Calls Tryz.prog 81 #[.slice pu ts.length cu, .string e.uid] X (Sought (ts.map (·.1)) e.uid X)) := Lib.hid (by
                  obtain ⟨a2, c2, h1, h2, h3⟩ := HTX.out.seg
                  simp only [Value.slice.injEq] at h1
                  obtain ⟨rfl, -, rfl⟩ := h1; have h := find81 (ts.map (·.1)) e.uid pu cu X h3.evs (by rw [List.length_map]; have := HQ.out.1; omega) (ahead_mono HUP.out e.uid)
                  rw [List.length_map] at h
                  exact h)
                have s2 : X.cell? ⟨S, 2, none⟩ = some (.slice pu ts.length cu) := HBX.out.cell 2
                have y0 : X.cell? ⟨wr.heap.size, 0, none⟩ = some (.string e.uid) := HXE.out.cell 0
                go_wp2_with fail
                refine HC.out.mono ?_
                rintro x X1 ⟨i, f, rfl, hi1, hi2, hi3, hi4, hb1⟩; have HI := Lib.hid (And.intro hi1 (And.intro hi2 (And.intro hi3 hi4)))
                have HX1 := Lib.hid (HX.out.trans (hb1.mono (show wr.heap.size ≤ X.heap.size by omega)))
                have HXE1 := Lib.hid (HXE.out.below hb1 HXE.out.lt)
                have HB1 := Lib.hid (HBX.out.below hb1 HBX.out.lt)
                have HT1 := Lib.hid (HTX.out.made hb1)
                have HO1 := Lib.hid (HOX.out.below hb1 HOX.out.lt)
                have HN1 := Lib.hid (row_made HNX.out hb1)
                have HL1 := Lib.hid (HLX.out.trans (hb1.mono hNX))
                have HIA1 := Lib.hid (HIA.out.below (hb1.mono hNX))
                have HIB1 := Lib.hid (HIB.out.below (hb1.mono hNX))
                have hXs2 : wr.heap.size < X1.heap.size := by have := hb1.size; omega
                have hiq : i ≤ ts.length := by rw [List.length_map] at hi1; exact hi1
                clear hi1 hi2 hi3 hi4 hb1 s2 y0 HC HX HXE HBX HTX HOX HNX HLX HIA HIB; go_upto_block 4 with fail
                have hNX1 : w.heap.size ≤ X1.heap.size := by omega
                go_cut [14] (fun s14 wx => ∃ (K : Int) (pu2 : Option Addr) (cu2 : Nat) (us : List (Ev × Value × Value)), s14 = .int .i64 K ∧ Hid (Blk S #[.int .i64 fv, .int .i64 tag, .slice pu2 us.length cu2] 24 wx) ∧ Hid (Blk (w.heap.size + 2) #[.int .i64 0, .int .i64 0, .slice none 0 0] 24 wx) ∧ Hid (RowT w.heap.size wx (.slice pu2 us.length cu2) us) ∧ Hid (RowN w.heap.size wx (.slice pn ns.length cn) ns) ∧ Hid (Blk wr.heap.size (evCells e (.slice pe e.days.ex.length ke) (.slice pf e.days.xt.length kf)) 82 wx) ∧ Hid (Below w.heap.size w wx) ∧ Hid ((us.map (·.1), noteN K e ns) = mrg es (fes.take (j + 1))))
                case first =>
                  cases f
                  · go_wp2_with fail
                    refine wp_region_tail 6 (by kernel_rfl) (fun listed a x => ∃ (l0 l1 l2 l3 l4 l5 : Bool) (t74 t75 t76 t77 t78 t79 : Value), listed = #[l0, l1, l2, l3, l4, l5, false, false, false] ∧ a = ⟨(.agg #[.int .i64 rv, .int .i64 tag, .slice ar k cr] :: .agg #[.string fn, .int .i64 fv, .slice (some ⟨bf, of, none⟩) m cf] :: .pointer (some ⟨w.heap.size, 0, none⟩) :: .pointer (some ⟨w.heap.size + 1, 0, none⟩) :: .pointer (some ⟨w.heap.size + 1 + 1, 0, none⟩) :: .slice none 0 0 :: .int .i64 0 :: .int .i64 0 :: .pointer (some ⟨S, 0, none⟩) :: undef :: u10 :: .slice pn ns.length cn :: undef :: .pointer (some ⟨wr.heap.size, 0, none⟩) :: .int .i64 0 :: .int .i64 i :: .bool false :: .agg #[.int .i64 rv, .int .i64 tag, .slice ar k cr] :: .bool true :: .bool false :: undef :: .agg #[.string fn, .int .i64 fv, .slice (some ⟨bf, of, none⟩) m cf] :: .int .i64 0 :: .int .i64 0 :: .bool false :: undef :: undef :: .pointer (some ⟨w.heap.size, 0, none⟩) :: .int .i64 rv :: .pointer (some ⟨w.heap.size, 1, none⟩) :: .int .i64 tag :: .agg #[.int .i64 rv, .int .i64 tag, .slice none 0 0] :: .pointer (some ⟨w.heap.size, 2, none⟩) :: .slice ar k cr :: .int .i64 k :: .int .i64 k :: .bool false :: u37 :: u38 :: u39 :: u40 :: u41 :: u42 :: u43 :: u44 :: u45 :: u46 :: .pointer (some ⟨w.heap.size + 1, 1, none⟩) :: .int .i64 fv :: .pointer (some ⟨w.heap.size, 0, none⟩) :: .int .i64 rv :: .bool false :: undef :: .pointer (some ⟨w.heap.size + 1, 1, none⟩) :: .int .i64 fv :: .pointer (some ⟨S, 0, none⟩) :: .pointer (some ⟨w.heap.size + 1, 2, none⟩) :: .slice (some ⟨bf, of, none⟩) m cf :: .int .i64 m :: .int .i64 j :: .bool true :: .pointer (some ⟨bf, of + j * 13, none⟩) :: .agg #[.string e.uid, .int .i64 e.seq, .bool e.canc, .int .i64 e.days.first, .int .i64 e.days.last, .int .i64 e.days.every, .int .i64 e.days.wd, .slice pe e.days.ex.length ke, .slice pf e.days.xt.length kf, .int .i64 e.start, .int .i64 e.mins, .string e.summ, .string e.loc] :: .tuple #[.int .i64 i, .bool false] :: .pointer (some ⟨S, 2, none⟩) :: .slice pu ts.length cu :: .pointer (some ⟨wr.heap.size, 0, none⟩) :: .string e.uid :: .tuple #[.int .i64 i, .bool false] :: .int .i64 i :: .bool false :: .bool true :: .bool false :: .bool true :: t74 :: t75 :: t76 :: t77 :: t78 :: t79 :: u80 :: u81 :: u82 :: u83 :: u84 :: u85 :: u86 :: u87 :: u88 :: u89 :: u90 :: u91 :: u92 :: u93 :: u94 :: u95 :: u96 :: u97 :: u98 :: u99 :: u100 :: u101 :: u102 :: u103 :: u104 :: u105 :: u106 :: u107 :: u108 :: u109 :: u110 :: u111 :: u112 :: u113 :: u114 :: u115 :: u116 :: u117 :: u118 :: u119 :: undef :: undef :: undef :: undef :: undef :: undef :: undef :: []).toArray, []⟩ ∧ Hid (l0 = true → t74 = .pointer (some ⟨S, 2, none⟩)) ∧ Hid (l1 = true → t75 = .slice pu ts.length cu) ∧ Hid (l2 = true → t76 = .int .i64 i) ∧ Hid (l3 = true → t77 = .agg #[.string e.uid, .int .i64 e.seq, .bool e.canc, .int .i64 e.days.first, .int .i64 e.days.last, .int .i64 e.days.every, .int .i64 e.days.wd, .slice pe e.days.ex.length ke, .slice pf e.days.xt.length kf, .int .i64 e.start, .int .i64 e.mins, .string e.summ, .string e.loc]) ∧ Hid (l4 = true → l5 = false → ∃ (q : Option Addr) (d : Nat) (q2 : Option Addr) (d2 : Nat), t78 = evVal e (.slice q e.days.ex.length d) (.slice q2 e.days.xt.length d2) ∧ RowI X1.heap.size x (.slice q e.days.ex.length d) e.days.ex ∧ RowI X1.heap.size x (.slice q2 e.days.xt.length d2) e.days.xt) ∧ Hid (l5 = true → ∃ (q : Option Addr) (d : Nat) (q2 : Option Addr) (d2 : Nat) (g : Nat), t79 = .slice (some ⟨g, 0, none⟩) 1 1 ∧ X1.heap.size ≤ g ∧ Blk g (evCells e (.slice q e.days.ex.length d) (.slice q2 e.days.xt.length d2)) 82 x ∧ RowI X1.heap.size x (.slice q e.days.ex.length d) e.days.ex ∧ RowI X1.heap.size x (.slice q2 e.days.xt.length d2) e.days.xt) ∧ Hid (Made X1 x)) (by decide) (by kernel_rfl) (by kernel_rfl) ?_ ?_ ?_ ?_
                    · exact ⟨false, false, false, false, false, false, _, _, _, _, _, _, rfl, rfl, Lib.hid (fun h => by cases h), Lib.hid (fun h => by cases h), Lib.hid (fun h => by cases h), Lib.hid (fun h => by cases h), Lib.hid (fun h => by cases h), Lib.hid (fun h => by cases h), Lib.hid (Made.start X1)⟩
                    · intro listed a x hj; obtain ⟨l0, hj⟩ := hj
                      obtain ⟨l1, hj⟩ := hj; obtain ⟨l2, hj⟩ := hj; obtain ⟨l3, hj⟩ := hj; obtain ⟨l4, hj⟩ := hj; obtain ⟨l5, hj⟩ := hj; obtain ⟨t74, hj⟩ := hj; obtain ⟨t75, hj⟩ := hj; obtain ⟨t76, hj⟩ := hj; obtain ⟨t77, hj⟩ := hj; obtain ⟨t78, hj⟩ := hj; obtain ⟨t79, hj⟩ := hj; obtain ⟨h1, -⟩ := hj; subst h1; exact ⟨rfl, fun k h1 h2 => by (have h2 : k < 9 := h2); rcases (show k = 6 ∨ k = 7 ∨ k = 8 by omega) with rfl | rfl | rfl <;> rfl⟩
                    · intro listed a x i hj hlt hu haf; obtain ⟨l0, hj⟩ := hj
                      obtain ⟨l1, hj⟩ := hj; obtain ⟨l2, hj⟩ := hj; obtain ⟨l3, hj⟩ := hj; obtain ⟨l4, hj⟩ := hj; obtain ⟨l5, hj⟩ := hj; obtain ⟨t74, hj⟩ := hj; obtain ⟨t75, hj⟩ := hj; obtain ⟨t76, hj⟩ := hj; obtain ⟨t77, hj⟩ := hj; obtain ⟨t78, hj⟩ := hj; obtain ⟨t79, hj⟩ := hj; obtain ⟨hl_, hj⟩ := hj; obtain ⟨ha_, hj⟩ := hj; obtain ⟨H0, hj⟩ := hj; obtain ⟨H1, hj⟩ := hj; obtain ⟨H2, hj⟩ := hj; obtain ⟨H3, hj⟩ := hj; obtain ⟨H4, hj⟩ := hj; obtain ⟨H5, hj⟩ := hj; have HS := hj; clear hj; subst hl_; subst ha_; rcases (show ∀ i : Nat, i < 6 → (i = 0 ∨ i = 1 ∨ i = 2 ∨ i = 3 ∨ i = 4 ∨ i = 5) by decide) i hlt with rfl | rfl | rfl | rfl | rfl | rfl
                      · have haf := haf _ rfl; clear haf
                        have hu : l0 = false := hu
                        refine wpOp_of_list_any rfl fun QQ hQ => ?_
                        have hQQ := Lib.hid hQ; clear hQ; simp only [List.getElem_toArray, List.getElem_cons_zero]
                        go_wp2_with fail
                        exact hQQ.out _ _ ⟨true, l1, l2, l3, l4, l5, _, _, _, _, _, _, rfl, rfl, Lib.hid (fun _ => rfl), H1, H2, H3, H4, H5, HS⟩
                      · have haf := haf _ rfl; have q0 : l0 = true := haf ⟨0, Go.Ground.data⟩ (by simp) rfl
                        clear haf; have hu : l1 = false := hu
                        have e0 := (H0.out q0)
                        subst e0; clear H0; have hc : x.cell? ⟨S, 2, none⟩ = some (.slice pu ts.length cu) := (HS.out.blk HB1.out).cell 2
                        refine wpOp_of_list_any rfl fun QQ hQ => ?_
                        have hQQ := Lib.hid hQ; clear hQ; simp only [List.getElem_toArray, List.getElem_cons_zero, List.getElem_cons_succ]
                        go_wp2_with fail
                        exact hQQ.out _ _ ⟨l0, true, l2, l3, l4, l5, _, _, _, _, _, _, rfl, rfl, Lib.hid (fun _ => rfl), Lib.hid (fun _ => rfl), H2, H3, H4, H5, HS⟩
                      · have haf := haf _ rfl; clear haf
                        have hu : l2 = false := hu
                        refine wpOp_of_list_any rfl fun QQ hQ => ?_
                        have hQQ := Lib.hid hQ; clear hQ; simp only [List.getElem_toArray, List.getElem_cons_zero, List.getElem_cons_succ]
                        go_wp2_with fail
                        exact hQQ.out _ _ ⟨l0, l1, true, l3, l4, l5, _, _, _, _, _, _, rfl, rfl, H0, H1, Lib.hid (fun _ => rfl), H3, H4, H5, HS⟩
                      · have haf := haf _ rfl; clear haf
                        have hu : l3 = false := hu
                        have y0 : x.cell? ⟨wr.heap.size, 0, none⟩ = some (.string e.uid) := (HS.out.blk HXE1.out).cell 0
                        have y1 : x.cell? ⟨wr.heap.size, 1, none⟩ = some (.int .i64 e.seq) := (HS.out.blk HXE1.out).cell 1
                        have y2 : x.cell? ⟨wr.heap.size, 2, none⟩ = some (.bool e.canc) := (HS.out.blk HXE1.out).cell 2
                        have y3 : x.cell? ⟨wr.heap.size, 3, none⟩ = some (.int .i64 e.days.first) := (HS.out.blk HXE1.out).cell 3
                        have y4 : x.cell? ⟨wr.heap.size, 4, none⟩ = some (.int .i64 e.days.last) := (HS.out.blk HXE1.out).cell 4
                        have y5 : x.cell? ⟨wr.heap.size, 5, none⟩ = some (.int .i64 e.days.every) := (HS.out.blk HXE1.out).cell 5
                        have y6 : x.cell? ⟨wr.heap.size, 6, none⟩ = some (.int .i64 e.days.wd) := (HS.out.blk HXE1.out).cell 6
                        have y7 : x.cell? ⟨wr.heap.size, 7, none⟩ = some (.slice pe e.days.ex.length ke) := (HS.out.blk HXE1.out).cell 7
                        have y8 : x.cell? ⟨wr.heap.size, 8, none⟩ = some (.slice pf e.days.xt.length kf) := (HS.out.blk HXE1.out).cell 8
                        have y9 : x.cell? ⟨wr.heap.size, 9, none⟩ = some (.int .i64 e.start) := (HS.out.blk HXE1.out).cell 9
                        have y10 : x.cell? ⟨wr.heap.size, 10, none⟩ = some (.int .i64 e.mins) := (HS.out.blk HXE1.out).cell 10
                        have y11 : x.cell? ⟨wr.heap.size, 11, none⟩ = some (.string e.summ) := (HS.out.blk HXE1.out).cell 11
                        have y12 : x.cell? ⟨wr.heap.size, 12, none⟩ = some (.string e.loc) := (HS.out.blk HXE1.out).cell 12
                        refine wpOp_of_list_any rfl fun QQ hQ => ?_
                        have hQQ := Lib.hid hQ; clear hQ; simp only [List.getElem_toArray, List.getElem_cons_zero, List.getElem_cons_succ]
                        go_wp2_with fail
                        exact hQQ.out _ _ ⟨l0, l1, l2, true, l4, l5, _, _, _, _, _, _, rfl, rfl, H0, H1, H2, Lib.hid (fun _ => rfl), H4, H5, HS⟩
                      · have haf := haf _ rfl; have q3 : l3 = true := haf ⟨3, Go.Ground.data⟩ (by simp) rfl
                        clear haf; have hu : l4 = false := hu
                        have e3 := (H3.out q3)
                        subst e3; clear H3; refine wpOp_of_list_any rfl fun QQ hQ => ?_
                        have hQQ := Lib.hid hQ; clear hQ; simp only [List.getElem_toArray, List.getElem_cons_zero, List.getElem_cons_succ]
                        go_wp2_with fail
                        refine (show Calls Tryz.prog 80 #[.agg #[.string e.uid, .int .i64 e.seq, .bool e.canc, .int .i64 e.days.first, .int .i64 e.days.last, .int .i64 e.days.every, .int .i64 e.days.wd, .slice pe e.days.ex.length ke, .slice pf e.days.xt.length kf, .int .i64 e.start, .int .i64 e.mins, .string e.summ, .string e.loc]] x (Twin e x) from twin80 e pe pf ke kf x ((HIA1.out.below (HS.out.below.mono hNX1)).mono (Nat.le_trans hNX1 HS.out.below.size)) ((HIB1.out.below (HS.out.below.mono hNX1)).mono (Nat.le_trans hNX1 HS.out.below.size)) HLE.out.1 HLE.out.2).mono ?_
                        rintro y x1 ⟨q, d, q2, d2, rfl, hX, hY, hb1⟩; have hk := Kept.made (B := X1.heap.size) hb1
                        have HS1 := Lib.hid (HS.out.then hb1)
                        have HX1 := Lib.hid (ownsRow_mono hX HS.out.below.size)
                        have HY1 := Lib.hid (ownsRow_mono hY HS.out.below.size)
                        clear hb1 hX hY; go_wp2_with fail
                        exact hQQ.out _ _ ⟨l0, l1, l2, l3, true, l5, _, _, _, _, _, _, rfl, rfl, H0, H1, H2, Lib.hid (fun _ => rfl), Lib.hid (fun _ _ => ⟨q, d, q2, d2, rfl, HX1.out, HY1.out⟩), Lib.hid (fun h => (by obtain ⟨q, d, q2, d2, g, e, c0, c1, c2, c3⟩ := H5.out h; exact ⟨q, d, q2, d2, g, e, c0, (hk _ _ _ c0 c1), (row_kept c2 hk), (row_kept c3 hk)⟩)), HS1⟩
                      · have haf := haf _ rfl; have q4 : l4 = true := haf ⟨4, Go.Ground.data⟩ (by simp) rfl
                        clear haf; have hu : l5 = false := hu
                        obtain ⟨q4, d4, q24, d24, e4, c4_0, c4_1⟩ := (H4.out q4 hu)
                        subst e4; clear H4; unfold evVal evCells
                        have HX1 := Lib.hid c4_0; have HY1 := Lib.hid c4_1; refine wpOp_of_list_any rfl fun QQ hQ => ?_
                        have hQQ := Lib.hid hQ; clear hQ; simp only [List.getElem_toArray, List.getElem_cons_zero, List.getElem_cons_succ]
                        go_wp2_with fail
                        exact hQQ.out _ _ ⟨l0, l1, l2, l3, l4, true, _, _, _, _, _, _, rfl, rfl, H0, H1, H2, H3, Lib.hid (fun _ h => by cases h), Lib.hid (fun _ => ⟨q4, d4, q24, d24, _, rfl, HS.out.below.size, Blk.new x _ _, World.ownsRow.alloc HX1.out _, World.ownsRow.alloc HY1.out _⟩), Lib.hid (HS.out.alloc _)⟩
                    · intro listed a x hj hall; obtain ⟨l0, hj⟩ := hj
                      obtain ⟨l1, hj⟩ := hj; obtain ⟨l2, hj⟩ := hj; obtain ⟨l3, hj⟩ := hj; obtain ⟨l4, hj⟩ := hj; obtain ⟨l5, hj⟩ := hj; obtain ⟨t74, hj⟩ := hj; obtain ⟨t75, hj⟩ := hj; obtain ⟨t76, hj⟩ := hj; obtain ⟨t77, hj⟩ := hj; obtain ⟨t78, hj⟩ := hj; obtain ⟨t79, hj⟩ := hj; obtain ⟨hl_, hj⟩ := hj; obtain ⟨ha_, hj⟩ := hj; obtain ⟨H0, hj⟩ := hj; obtain ⟨H1, hj⟩ := hj; obtain ⟨H2, hj⟩ := hj; obtain ⟨H3, hj⟩ := hj; obtain ⟨H4, hj⟩ := hj; obtain ⟨H5, hj⟩ := hj; have HS := hj; clear hj; subst hl_; subst ha_; have q1 : l1 = true := hall 1 (by omega)
                      have q2 : l2 = true := hall 2 (by omega)
                      have q5 : l5 = true := hall 5 (by omega)
                      clear hall; have e1 := (H1.out q1)
                      subst e1; have e2 := (H2.out q2)
                      subst e2; obtain ⟨q5, d5, q25, d25, g5, e5, c5_0, c5_1, c5_2, c5_3⟩ := (H5.out q5)
                      subst e5; have HTH := Lib.hid (HT1.out.made HS.out.below)
                      have HBH := Lib.hid (HS.out.blk HB1.out)
                      have HOH := Lib.hid (HS.out.blk HO1.out)
                      have HNH := Lib.hid (row_made HN1.out HS.out.below)
                      have HEH := Lib.hid (HS.out.blk HXE1.out)
                      have HLH := Lib.hid (HL1.out.trans (HS.out.below.mono hNX1))
                      have HRfH := Lib.hid (show RefT w.heap.size x (e, (.slice q5 e.days.ex.length d5), (.slice q25 e.days.xt.length d25)) from ⟨HEB.out, ownsRow_mono c5_2 hNX1, ownsRow_mono c5_3 hNX1⟩)
                      have HCALL := Lib.hid (insert82 w.heap.size (.slice pu ts.length cu) ts.length i g5 (tCells ts) (evCells e (.slice q5 e.days.ex.length d5) (.slice q25 e.days.xt.length d25)).toList x HTH.out.row hiq (by have := HQ.out.1; omega) HLH.out.size (by rw [Array.toArray_toList]; exact c5_1) (by intro h; have := HRW.out _ h; omega) rfl (evCells_one _ _ _ _ _ _ _) HTH.out.one)
                      clear c5_0 c5_1 c5_2 c5_3; refine tail_any (fun a x => ∃ (t74 t75 t76 t77 t78 t79 t80 t81 : Value), a = ⟨(.agg #[.int .i64 rv, .int .i64 tag, .slice ar k cr] :: .agg #[.string fn, .int .i64 fv, .slice (some ⟨bf, of, none⟩) m cf] :: .pointer (some ⟨w.heap.size, 0, none⟩) :: .pointer (some ⟨w.heap.size + 1, 0, none⟩) :: .pointer (some ⟨w.heap.size + 1 + 1, 0, none⟩) :: .slice none 0 0 :: .int .i64 0 :: .int .i64 0 :: .pointer (some ⟨S, 0, none⟩) :: undef :: u10 :: .slice pn ns.length cn :: undef :: .pointer (some ⟨wr.heap.size, 0, none⟩) :: .int .i64 0 :: .int .i64 i :: .bool false :: .agg #[.int .i64 rv, .int .i64 tag, .slice ar k cr] :: .bool true :: .bool false :: undef :: .agg #[.string fn, .int .i64 fv, .slice (some ⟨bf, of, none⟩) m cf] :: .int .i64 0 :: .int .i64 0 :: .bool false :: undef :: undef :: .pointer (some ⟨w.heap.size, 0, none⟩) :: .int .i64 rv :: .pointer (some ⟨w.heap.size, 1, none⟩) :: .int .i64 tag :: .agg #[.int .i64 rv, .int .i64 tag, .slice none 0 0] :: .pointer (some ⟨w.heap.size, 2, none⟩) :: .slice ar k cr :: .int .i64 k :: .int .i64 k :: .bool false :: u37 :: u38 :: u39 :: u40 :: u41 :: u42 :: u43 :: u44 :: u45 :: u46 :: .pointer (some ⟨w.heap.size + 1, 1, none⟩) :: .int .i64 fv :: .pointer (some ⟨w.heap.size, 0, none⟩) :: .int .i64 rv :: .bool false :: undef :: .pointer (some ⟨w.heap.size + 1, 1, none⟩) :: .int .i64 fv :: .pointer (some ⟨S, 0, none⟩) :: .pointer (some ⟨w.heap.size + 1, 2, none⟩) :: .slice (some ⟨bf, of, none⟩) m cf :: .int .i64 m :: .int .i64 j :: .bool true :: .pointer (some ⟨bf, of + j * 13, none⟩) :: .agg #[.string e.uid, .int .i64 e.seq, .bool e.canc, .int .i64 e.days.first, .int .i64 e.days.last, .int .i64 e.days.every, .int .i64 e.days.wd, .slice pe e.days.ex.length ke, .slice pf e.days.xt.length kf, .int .i64 e.start, .int .i64 e.mins, .string e.summ, .string e.loc] :: .tuple #[.int .i64 i, .bool false] :: .pointer (some ⟨S, 2, none⟩) :: .slice pu ts.length cu :: .pointer (some ⟨wr.heap.size, 0, none⟩) :: .string e.uid :: .tuple #[.int .i64 i, .bool false] :: .int .i64 i :: .bool false :: .bool true :: .bool false :: .bool true :: t74 :: t75 :: t76 :: t77 :: t78 :: t79 :: t80 :: t81 :: u82 :: u83 :: u84 :: u85 :: u86 :: u87 :: u88 :: u89 :: u90 :: u91 :: u92 :: u93 :: u94 :: u95 :: u96 :: u97 :: u98 :: u99 :: u100 :: u101 :: u102 :: u103 :: u104 :: u105 :: u106 :: u107 :: u108 :: u109 :: u110 :: u111 :: u112 :: u113 :: u114 :: u115 :: u116 :: u117 :: u118 :: u119 :: undef :: undef :: undef :: undef :: undef :: undef :: undef :: []).toArray, []⟩ ∧ ∃ (pu2 : Option Addr) (cu2 : Nat) (us : List (Ev × Value × Value)), us.map (·.1) = putE e (ts.map (·.1)) ∧ Blk S #[.int .i64 fv, .int .i64 tag, .slice pu2 us.length cu2] 24 x ∧ Blk (w.heap.size + 2) #[.int .i64 0, .int .i64 0, .slice none 0 0] 24 x ∧ RowT w.heap.size x (.slice pu2 us.length cu2) us ∧ RowN w.heap.size x (.slice pn ns.length cn) ns ∧ Blk wr.heap.size (evCells e (.slice pe e.days.ex.length ke) (.slice pf e.days.xt.length kf)) 82 x ∧ Below w.heap.size w x) ?_ fun QQ hQ => ?_
                      · intro a x hpost; obtain ⟨t74, hpost⟩ := hpost
                        obtain ⟨t75, hpost⟩ := hpost; obtain ⟨t76, hpost⟩ := hpost; obtain ⟨t77, hpost⟩ := hpost; obtain ⟨t78, hpost⟩ := hpost; obtain ⟨t79, hpost⟩ := hpost; obtain ⟨t80, hpost⟩ := hpost; obtain ⟨t81, hpost⟩ := hpost; obtain ⟨ha_, hpost⟩ := hpost; subst ha_; obtain ⟨pu2, cu2, us, p0, p1, p2, p3, p4, p5, p6⟩ := hpost; have y0 : x.cell? ⟨wr.heap.size, 0, none⟩ = some (.string e.uid) := p5.cell 0
                        have y1 : x.cell? ⟨wr.heap.size, 1, none⟩ = some (.int .i64 e.seq) := p5.cell 1
                        have y2 : x.cell? ⟨wr.heap.size, 2, none⟩ = some (.bool e.canc) := p5.cell 2
                        have y3 : x.cell? ⟨wr.heap.size, 3, none⟩ = some (.int .i64 e.days.first) := p5.cell 3
                        have y4 : x.cell? ⟨wr.heap.size, 4, none⟩ = some (.int .i64 e.days.last) := p5.cell 4
                        have y5 : x.cell? ⟨wr.heap.size, 5, none⟩ = some (.int .i64 e.days.every) := p5.cell 5
                        have y6 : x.cell? ⟨wr.heap.size, 6, none⟩ = some (.int .i64 e.days.wd) := p5.cell 6
                        have y7 : x.cell? ⟨wr.heap.size, 7, none⟩ = some (.slice pe e.days.ex.length ke) := p5.cell 7
                        have y8 : x.cell? ⟨wr.heap.size, 8, none⟩ = some (.slice pf e.days.xt.length kf) := p5.cell 8
                        have y9 : x.cell? ⟨wr.heap.size, 9, none⟩ = some (.int .i64 e.start) := p5.cell 9
                        have y10 : x.cell? ⟨wr.heap.size, 10, none⟩ = some (.int .i64 e.mins) := p5.cell 10
                        have y11 : x.cell? ⟨wr.heap.size, 11, none⟩ = some (.string e.summ) := p5.cell 11
                        have y12 : x.cell? ⟨wr.heap.size, 12, none⟩ = some (.string e.loc) := p5.cell 12
                        have P0 := Lib.hid p0; have P1 := Lib.hid p1; have P2 := Lib.hid p2; have P3 := Lib.hid p3; have P4 := Lib.hid p4; have P5 := Lib.hid p5; have P6 := Lib.hid p6; clear p0 p1 p2 p3 p4 p5 p6; have HK : Hid (Calls Tryz.prog 83 #[.agg #[.string ⟨#[]⟩, .int .i64 0, .bool true, .int .i64 0, .int .i64 0, .int .i64 0, .int .i64 0, .slice none 0 0, .slice none 0 0, .int .i64 0, .int .i64 0, .string ⟨#[]⟩, .string ⟨#[]⟩], .agg #[.string e.uid, .int .i64 e.seq, .bool e.canc, .int .i64 e.days.first, .int .i64 e.days.last, .int .i64 e.days.every, .int .i64 e.days.wd, .slice pe e.days.ex.length ke, .slice pf e.days.xt.length kf, .int .i64 e.start, .int .i64 e.mins, .string e.summ, .string e.loc]] x fun z w' => z = .returned (.int .i64 (toldV true e.canc)) ∧ Below x.heap.size x w') := Lib.hid (told83 (⟨⟨#[]⟩, 0, true, ⟨0, 0, 0, 0, [], []⟩, 0, 0, ⟨#[]⟩, ⟨#[]⟩⟩ : Ev) e none none pe pf 0 0 _ _ 0 0 ke kf x)
                        go_wp2_with fail
                        refine HK.out.mono ?_
                        rintro z x9 ⟨rfl, hb9⟩; have HST := Lib.hid (show (us.map (·.1), noteN (toldV true e.canc) e ns) = mrg es (fes.take (j + 1)) from by
                          rw [mrg_take es fes j e HFK.out, ← HM.out, P0.out, stepM_none (sought_none HUP.out HI.out.2.1 HI.out.2.2.1 (fun h => by have := HI.out.2.2.2.2 h; cases this))])
                        have P1 := Lib.hid (P1.out.below hb9 P1.out.lt)
                        have P2 := Lib.hid (P2.out.below hb9 P2.out.lt)
                        have P3 := Lib.hid (P3.out.made hb9)
                        have P4 := Lib.hid (row_made P4.out hb9)
                        have P5 := Lib.hid (P5.out.below hb9 P5.out.lt)
                        have P6 := Lib.hid (P6.out.trans (hb9.mono P6.out.size))
                        clear hb9 y0 y1 y2 y3 y4 y5 y6 y7 y8 y9 y10 y11 y12; go_wp2_with fail
                        go_meet
                        exact ⟨_, pu2, cu2, us, rfl, P1, P2, P3, P4, P5, P6, HST⟩
                      have hQQ := Lib.hid hQ; clear hQ; simp only [List.drop_succ_cons, List.drop_zero]
                      go_wp2_with fail
                      refine HCALL.out.mono ?_
                      rintro y x8 ⟨v', rfl, hown8, hgrow, hat⟩; obtain ⟨p8, q8, hv8⟩ := ownsRow_len hown8
                      subst hv8; have S8 := HBH.out.grown HTH.out.row hgrow (by decide)
                      have O8 := HOH.out.grown HTH.out.row hgrow (by decide)
                      have N8 := World.ownsRow.kept (show x.ownsRow w.heap.size 99 3 _ _ _ from HNH.out) hgrow (row_apart_ty (show x.ownsRow w.heap.size 99 3 _ _ _ from HNH.out) HTH.out.row (by decide))
                      have E8 := (hgrow.block wr.heap.size HEH.out.lt (by intro h; have := HRW.out _ h.symm; omega)).trans HEH.out
                      have T8 := HTH.out.ins HRfH.out hgrow i hiq hown8
                      have L8 := below_grownBy HLH.out HTH.out.row (Nat.le_refl _) HLH.out.size hgrow
                      have f0 : x8.cell? ⟨S, 2, none⟩ = some (.slice pu ts.length cu) := S8.cell 2
                      have z0 := S8.frozen 2; have HS9 := Lib.hid (S8.set 2 (.slice p8 (ts.length + 1) q8))
                      have HO9 := Lib.hid (O8.set_other (show w.heap.size + 2 ≠ S by omega) 2 (.slice p8 (ts.length + 1) q8))
                      have HN9 := Lib.hid (row_set N8 S8 (by decide) 2 (.slice p8 (ts.length + 1) q8))
                      have HE9 := Lib.hid (Blk.set_other (show Blk wr.heap.size _ 82 x8 from E8) (show wr.heap.size ≠ S by omega) 2 (.slice p8 (ts.length + 1) q8))
                      have HT9 := Lib.hid (T8.set S8 (by decide) (by decide) 2 (.slice p8 (ts.length + 1) q8))
                      have HL9 := Lib.hid (L8.setCell (show w.heap.size ≤ (⟨S, 2, none⟩ : Addr).block from hNS) (.slice p8 (ts.length + 1) q8))
                      have HUL := Lib.hid (show (ts.take i ++ (e, (.slice q5 e.days.ex.length d5), (.slice q25 e.days.xt.length d25)) :: ts.drop i).length = ts.length + 1 from by simp; omega)
                      have HPM := Lib.hid (show (ts.take i ++ (e, (.slice q5 e.days.ex.length d5), (.slice q25 e.days.xt.length d25)) :: ts.drop i).map (·.1) = putE e (ts.map (·.1)) from by rw [← place_none (t := (e, (.slice q5 e.days.ex.length d5), (.slice q25 e.days.xt.length d25))) hiq HI.out.2.1 HI.out.2.2.1 (fun h => by have := HI.out.2.2.2.2 h; cases this), putT_map])
                      clear hgrow hown8 hat S8 O8 N8 E8 T8 L8 HTH HBH HOH HNH HEH HLH HRfH HCALL; go_wp2_with fail
                      exact hQQ.out _ _ ⟨_, _, _, _, _, _, _, _, rfl, p8, q8, _, HPM.out, by rw [HUL.out]; exact HS9.out, HO9.out, by rw [HUL.out]; exact HT9.out, HN9.out, HE9.out, HL9.out⟩
                  · obtain ⟨o1, hoi, hco⟩ := HI.out.2.2.2.1 rfl
                    have HOI := Lib.hid hoi; obtain ⟨t2, ht2, hto⟩ : ∃ t, ts[i]? = some t ∧ t.1 = o1 := by
                      rw [List.getElem?_map] at hoi
                      cases h2 : ts[i]? with
                      | none => rw [h2] at hoi; cases hoi
                      | some t => rw [h2] at hoi; exact ⟨t, rfl, by simpa using hoi⟩
                    obtain ⟨o, va, vb⟩ := t2; simp only at hto
                    subst hto; obtain ⟨-, hx2, hy2⟩ := HT1.out.ref _ (List.mem_of_getElem? ht2)
                    obtain ⟨po, ko, hva⟩ := hx2.slice
                    obtain ⟨pp, kp, hvb⟩ := hy2.slice
                    simp only at hva hvb
                    subst hva; subst hvb; have hilt : i < ts.length := (List.getElem?_eq_some_iff.1 ht2).1
                    have hilti : (i : Int) < ts.length := by omega
                    obtain ⟨g, hpu⟩ : ∃ g, pu = some ⟨g, 0, none⟩ := by
                      rcases HT1.out.row.2 with ⟨_, h0⟩ | ⟨g, cap, cur, hv, _⟩
                      · omega
                      · simp only [Value.slice.injEq] at hv; exact ⟨g, hv.1⟩
                    subst hpu; have hgw : g < wr.heap.size := HRW.out g rfl
                    have hgS : ¬ S = g := by
                      intro h; have h1 : X1.heap[S]? = _ := HB1.out
                      rcases HT1.out.row.2 with ⟨_, h0⟩ | ⟨g2, cap, cur, hv, _, hb, _⟩
                      · omega
                      · simp only [Value.slice.injEq, Option.some.injEq, Addr.mk.injEq, and_true, true_and] at hv; rw [← hv.1, ← h, h1] at hb; cases hb
                    have hgO : ¬ w.heap.size + 2 = g := by
                      intro h; have h1 : X1.heap[w.heap.size + 2]? = _ := HO1.out
                      rcases HT1.out.row.2 with ⟨_, h0⟩ | ⟨g2, cap, cur, hv, _, hb, _⟩
                      · omega
                      · simp only [Value.slice.injEq, Option.some.injEq, Addr.mk.injEq, and_true, true_and] at hv; rw [← hv.1, ← h, h1] at hb; cases hb
                    have hgE : ¬ wr.heap.size = g := by omega
                    have HTI := Lib.hid ht2; have HCO := Lib.hid hco; obtain ⟨-, e1, -⟩ := HT1.out.ev i _ ht2
                    simp only at e1
                    have s2 : X1.cell? ⟨S, 2, none⟩ = some (.slice (some ⟨g, 0, none⟩) ts.length cu) := HB1.out.cell 2
                    have y1 : X1.cell? ⟨wr.heap.size, 1, none⟩ = some (.int .i64 e.seq) := HXE1.out.cell 1
                    clear hoi ht2 hco hx2 hy2; by_cases hseq : o.seq < e.seq
                    · go_wp2_with fail
                      go_quiet (fail)
                      obtain ⟨X2, hX2⟩ : ∃ X2, X2 = X1.drewN nq := ⟨_, rfl⟩
                      have hb2 : Below X1.heap.size X1 X2 := by rw [hX2]; exact below_drewN (Below.refl _ _) _
                      try rw [← hX2]
                      clear hX2; have hNX2 : w.heap.size ≤ X2.heap.size := by have := hb2.size; omega
                      have HB1 := Lib.hid (HB1.out.below hb2 HB1.out.lt)
                      have HT1 := Lib.hid (HT1.out.made hb2)
                      have HO1 := Lib.hid (HO1.out.below hb2 HO1.out.lt)
                      have HN1 := Lib.hid (row_made HN1.out hb2)
                      have HXE1 := Lib.hid (HXE1.out.below hb2 HXE1.out.lt)
                      have HL1 := Lib.hid (HL1.out.trans (hb2.mono hNX1))
                      have HIA1 := Lib.hid (HIA1.out.below (hb2.mono hNX1))
                      have HIB1 := Lib.hid (HIB1.out.below (hb2.mono hNX1))
                      have HSQ := Lib.hid hseq; clear hb2 s2 y1 e1 hseq; go_wp2_with fail
                      refine wp_region_tail 6 (by kernel_rfl) (fun listed a x => ∃ (l0 l1 l2 l3 l4 l5 : Bool) (t95 t96 t97 t98 t99 t100 : Value), listed = #[l0, l1, l2, l3, l4, l5, false, false] ∧ a = ⟨(.agg #[.int .i64 rv, .int .i64 tag, .slice ar k cr] :: .agg #[.string fn, .int .i64 fv, .slice (some ⟨bf, of, none⟩) m cf] :: .pointer (some ⟨w.heap.size, 0, none⟩) :: .pointer (some ⟨w.heap.size + 1, 0, none⟩) :: .pointer (some ⟨w.heap.size + 1 + 1, 0, none⟩) :: .slice none 0 0 :: .int .i64 0 :: .int .i64 0 :: .pointer (some ⟨S, 0, none⟩) :: undef :: u10 :: .slice pn ns.length cn :: undef :: .pointer (some ⟨wr.heap.size, 0, none⟩) :: .int .i64 0 :: .int .i64 i :: .bool true :: .agg #[.int .i64 rv, .int .i64 tag, .slice ar k cr] :: .bool true :: .bool false :: undef :: .agg #[.string fn, .int .i64 fv, .slice (some ⟨bf, of, none⟩) m cf] :: .int .i64 0 :: .int .i64 0 :: .bool false :: undef :: undef :: .pointer (some ⟨w.heap.size, 0, none⟩) :: .int .i64 rv :: .pointer (some ⟨w.heap.size, 1, none⟩) :: .int .i64 tag :: .agg #[.int .i64 rv, .int .i64 tag, .slice none 0 0] :: .pointer (some ⟨w.heap.size, 2, none⟩) :: .slice ar k cr :: .int .i64 k :: .int .i64 k :: .bool false :: u37 :: u38 :: u39 :: u40 :: u41 :: u42 :: u43 :: u44 :: u45 :: u46 :: .pointer (some ⟨w.heap.size + 1, 1, none⟩) :: .int .i64 fv :: .pointer (some ⟨w.heap.size, 0, none⟩) :: .int .i64 rv :: .bool false :: undef :: .pointer (some ⟨w.heap.size + 1, 1, none⟩) :: .int .i64 fv :: .pointer (some ⟨S, 0, none⟩) :: .pointer (some ⟨w.heap.size + 1, 2, none⟩) :: .slice (some ⟨bf, of, none⟩) m cf :: .int .i64 m :: .int .i64 j :: .bool true :: .pointer (some ⟨bf, of + j * 13, none⟩) :: .agg #[.string e.uid, .int .i64 e.seq, .bool e.canc, .int .i64 e.days.first, .int .i64 e.days.last, .int .i64 e.days.every, .int .i64 e.days.wd, .slice pe e.days.ex.length ke, .slice pf e.days.xt.length kf, .int .i64 e.start, .int .i64 e.mins, .string e.summ, .string e.loc] :: .tuple #[.int .i64 i, .bool true] :: .pointer (some ⟨S, 2, none⟩) :: .slice (some ⟨g, 0, none⟩) ts.length cu :: .pointer (some ⟨wr.heap.size, 0, none⟩) :: .string e.uid :: .tuple #[.int .i64 i, .bool true] :: .int .i64 i :: .bool true :: .bool false :: .bool true :: .bool false :: u74 :: u75 :: u76 :: u77 :: u78 :: u79 :: u80 :: u81 :: u82 :: u83 :: u84 :: .bool true :: .pointer (some ⟨S, 2, none⟩) :: .slice (some ⟨g, 0, none⟩) ts.length cu :: .int .i64 i :: .pointer (some ⟨g, i * 13, none⟩) :: .pointer (some ⟨g, i * 13 + 1, none⟩) :: .int .i64 o.seq :: .pointer (some ⟨wr.heap.size, 1, none⟩) :: .int .i64 e.seq :: .bool true :: t95 :: t96 :: t97 :: t98 :: t99 :: t100 :: u101 :: u102 :: u103 :: u104 :: u105 :: u106 :: u107 :: u108 :: u109 :: u110 :: u111 :: u112 :: u113 :: u114 :: u115 :: u116 :: u117 :: u118 :: u119 :: undef :: undef :: undef :: undef :: undef :: undef :: undef :: []).toArray, []⟩ ∧ Hid (l0 = true → t95 = .pointer (some ⟨S, 2, none⟩)) ∧ Hid (l1 = true → t96 = .slice (some ⟨g, 0, none⟩) ts.length cu) ∧ Hid (l2 = true → t97 = .int .i64 i) ∧ Hid (l3 = true → t98 = .pointer (some ⟨g, i * 13, none⟩)) ∧ Hid (l4 = true → t99 = .agg #[.string o.uid, .int .i64 o.seq, .bool o.canc, .int .i64 o.days.first, .int .i64 o.days.last, .int .i64 o.days.every, .int .i64 o.days.wd, .slice po o.days.ex.length ko, .slice pp o.days.xt.length kp, .int .i64 o.start, .int .i64 o.mins, .string o.summ, .string o.loc]) ∧ Hid (l5 = true → t100 = .agg #[.string e.uid, .int .i64 e.seq, .bool e.canc, .int .i64 e.days.first, .int .i64 e.days.last, .int .i64 e.days.every, .int .i64 e.days.wd, .slice pe e.days.ex.length ke, .slice pf e.days.xt.length kf, .int .i64 e.start, .int .i64 e.mins, .string e.summ, .string e.loc]) ∧ Hid (Made X2 x)) (by decide) (by kernel_rfl) (by kernel_rfl) ?_ ?_ ?_ ?_
                      · exact ⟨false, false, false, false, false, false, _, _, _, _, _, _, rfl, rfl, Lib.hid (fun h => by cases h), Lib.hid (fun h => by cases h), Lib.hid (fun h => by cases h), Lib.hid (fun h => by cases h), Lib.hid (fun h => by cases h), Lib.hid (fun h => by cases h), Lib.hid (Made.start X2)⟩
                      · intro listed a x hj; obtain ⟨l0, hj⟩ := hj
                        obtain ⟨l1, hj⟩ := hj; obtain ⟨l2, hj⟩ := hj; obtain ⟨l3, hj⟩ := hj; obtain ⟨l4, hj⟩ := hj; obtain ⟨l5, hj⟩ := hj; obtain ⟨t95, hj⟩ := hj; obtain ⟨t96, hj⟩ := hj; obtain ⟨t97, hj⟩ := hj; obtain ⟨t98, hj⟩ := hj; obtain ⟨t99, hj⟩ := hj; obtain ⟨t100, hj⟩ := hj; obtain ⟨h1, -⟩ := hj; subst h1; exact ⟨rfl, fun k h1 h2 => by (have h2 : k < 8 := h2); rcases (show k = 6 ∨ k = 7 by omega) with rfl | rfl <;> rfl⟩
                      · intro listed a x i hj hlt hu haf; obtain ⟨l0, hj⟩ := hj
                        obtain ⟨l1, hj⟩ := hj; obtain ⟨l2, hj⟩ := hj; obtain ⟨l3, hj⟩ := hj; obtain ⟨l4, hj⟩ := hj; obtain ⟨l5, hj⟩ := hj; obtain ⟨t95, hj⟩ := hj; obtain ⟨t96, hj⟩ := hj; obtain ⟨t97, hj⟩ := hj; obtain ⟨t98, hj⟩ := hj; obtain ⟨t99, hj⟩ := hj; obtain ⟨t100, hj⟩ := hj; obtain ⟨hl_, hj⟩ := hj; obtain ⟨ha_, hj⟩ := hj; obtain ⟨H0, hj⟩ := hj; obtain ⟨H1, hj⟩ := hj; obtain ⟨H2, hj⟩ := hj; obtain ⟨H3, hj⟩ := hj; obtain ⟨H4, hj⟩ := hj; obtain ⟨H5, hj⟩ := hj; have HS := hj; clear hj; subst hl_; subst ha_; rcases (show ∀ i : Nat, i < 6 → (i = 0 ∨ i = 1 ∨ i = 2 ∨ i = 3 ∨ i = 4 ∨ i = 5) by decide) i hlt with rfl | rfl | rfl | rfl | rfl | rfl
                        · have haf := haf _ rfl; clear haf
                          have hu : l0 = false := hu
                          refine wpOp_of_list_any rfl fun QQ hQ => ?_
                          have hQQ := Lib.hid hQ; clear hQ; simp only [List.getElem_toArray, List.getElem_cons_zero]
                          go_wp2_with fail
                          exact hQQ.out _ _ ⟨true, l1, l2, l3, l4, l5, _, _, _, _, _, _, rfl, rfl, Lib.hid (fun _ => rfl), H1, H2, H3, H4, H5, HS⟩
                        · have haf := haf _ rfl; have q0 : l0 = true := haf ⟨0, Go.Ground.data⟩ (by simp) rfl
                          clear haf; have hu : l1 = false := hu
                          have e0 := (H0.out q0)
                          subst e0; clear H0; have hc : x.cell? ⟨S, 2, none⟩ = some (.slice (some ⟨g, 0, none⟩) ts.length cu) := (HS.out.blk HB1.out).cell 2
                          refine wpOp_of_list_any rfl fun QQ hQ => ?_
                          have hQQ := Lib.hid hQ; clear hQ; simp only [List.getElem_toArray, List.getElem_cons_zero, List.getElem_cons_succ]
                          go_wp2_with fail
                          exact hQQ.out _ _ ⟨l0, true, l2, l3, l4, l5, _, _, _, _, _, _, rfl, rfl, Lib.hid (fun _ => rfl), Lib.hid (fun _ => rfl), H2, H3, H4, H5, HS⟩
                        · have haf := haf _ rfl; clear haf
                          have hu : l2 = false := hu
                          refine wpOp_of_list_any rfl fun QQ hQ => ?_
                          have hQQ := Lib.hid hQ; clear hQ; simp only [List.getElem_toArray, List.getElem_cons_zero, List.getElem_cons_succ]
                          go_wp2_with fail
                          exact hQQ.out _ _ ⟨l0, l1, true, l3, l4, l5, _, _, _, _, _, _, rfl, rfl, H0, H1, Lib.hid (fun _ => rfl), H3, H4, H5, HS⟩
                        · have haf := haf _ rfl; have q1 : l1 = true := haf ⟨1, Go.Ground.data⟩ (by simp) rfl
                          have q2 : l2 = true := haf ⟨2, Go.Ground.data⟩ (by simp) rfl
                          clear haf; have hu : l3 = false := hu
                          have e1 := (H1.out q1)
                          subst e1; clear H1; have e2 := (H2.out q2)
                          subst e2; clear H2; refine wpOp_of_list_any rfl fun QQ hQ => ?_
                          have hQQ := Lib.hid hQ; clear hQ; simp only [List.getElem_toArray, List.getElem_cons_zero, List.getElem_cons_succ]
                          go_wp2_with fail
                          exact hQQ.out _ _ ⟨l0, l1, l2, true, l4, l5, _, _, _, _, _, _, rfl, rfl, H0, Lib.hid (fun _ => rfl), Lib.hid (fun _ => rfl), Lib.hid (fun _ => rfl), H4, H5, HS⟩
                        · have haf := haf _ rfl; have q3 : l3 = true := haf ⟨3, Go.Ground.data⟩ (by simp) rfl
                          clear haf; have hu : l4 = false := hu
                          have e3 := (H3.out q3)
                          subst e3; clear H3; obtain ⟨a0, a1, a2, a3, a4, a5, a6, a7, a8, a9, a10, a11, a12⟩ := (HT1.out.made HS.out.below).ev i _ HTI.out
                          simp only at a0 a1 a2 a3 a4 a5 a6 a7 a8 a9 a10 a11 a12
                          refine wpOp_of_list_any rfl fun QQ hQ => ?_
                          have hQQ := Lib.hid hQ; clear hQ; simp only [List.getElem_toArray, List.getElem_cons_zero, List.getElem_cons_succ]
                          go_wp2_with fail
                          exact hQQ.out _ _ ⟨l0, l1, l2, l3, true, l5, _, _, _, _, _, _, rfl, rfl, H0, H1, H2, Lib.hid (fun _ => rfl), Lib.hid (fun _ => rfl), H5, HS⟩
                        · have haf := haf _ rfl; clear haf
                          have hu : l5 = false := hu
                          have y0 : x.cell? ⟨wr.heap.size, 0, none⟩ = some (.string e.uid) := (HS.out.blk HXE1.out).cell 0
                          have y1 : x.cell? ⟨wr.heap.size, 1, none⟩ = some (.int .i64 e.seq) := (HS.out.blk HXE1.out).cell 1
                          have y2 : x.cell? ⟨wr.heap.size, 2, none⟩ = some (.bool e.canc) := (HS.out.blk HXE1.out).cell 2
                          have y3 : x.cell? ⟨wr.heap.size, 3, none⟩ = some (.int .i64 e.days.first) := (HS.out.blk HXE1.out).cell 3
                          have y4 : x.cell? ⟨wr.heap.size, 4, none⟩ = some (.int .i64 e.days.last) := (HS.out.blk HXE1.out).cell 4
                          have y5 : x.cell? ⟨wr.heap.size, 5, none⟩ = some (.int .i64 e.days.every) := (HS.out.blk HXE1.out).cell 5
                          have y6 : x.cell? ⟨wr.heap.size, 6, none⟩ = some (.int .i64 e.days.wd) := (HS.out.blk HXE1.out).cell 6
                          have y7 : x.cell? ⟨wr.heap.size, 7, none⟩ = some (.slice pe e.days.ex.length ke) := (HS.out.blk HXE1.out).cell 7
                          have y8 : x.cell? ⟨wr.heap.size, 8, none⟩ = some (.slice pf e.days.xt.length kf) := (HS.out.blk HXE1.out).cell 8
                          have y9 : x.cell? ⟨wr.heap.size, 9, none⟩ = some (.int .i64 e.start) := (HS.out.blk HXE1.out).cell 9
                          have y10 : x.cell? ⟨wr.heap.size, 10, none⟩ = some (.int .i64 e.mins) := (HS.out.blk HXE1.out).cell 10
                          have y11 : x.cell? ⟨wr.heap.size, 11, none⟩ = some (.string e.summ) := (HS.out.blk HXE1.out).cell 11
                          have y12 : x.cell? ⟨wr.heap.size, 12, none⟩ = some (.string e.loc) := (HS.out.blk HXE1.out).cell 12
                          refine wpOp_of_list_any rfl fun QQ hQ => ?_
                          have hQQ := Lib.hid hQ; clear hQ; simp only [List.getElem_toArray, List.getElem_cons_zero, List.getElem_cons_succ]
                          go_wp2_with fail
                          exact hQQ.out _ _ ⟨l0, l1, l2, l3, l4, true, _, _, _, _, _, _, rfl, rfl, H0, H1, H2, H3, H4, Lib.hid (fun _ => rfl), HS⟩
                      · intro listed a x hj hall; obtain ⟨l0, hj⟩ := hj
                        obtain ⟨l1, hj⟩ := hj; obtain ⟨l2, hj⟩ := hj; obtain ⟨l3, hj⟩ := hj; obtain ⟨l4, hj⟩ := hj; obtain ⟨l5, hj⟩ := hj; obtain ⟨t95, hj⟩ := hj; obtain ⟨t96, hj⟩ := hj; obtain ⟨t97, hj⟩ := hj; obtain ⟨t98, hj⟩ := hj; obtain ⟨t99, hj⟩ := hj; obtain ⟨t100, hj⟩ := hj; obtain ⟨hl_, hj⟩ := hj; obtain ⟨ha_, hj⟩ := hj; obtain ⟨H0, hj⟩ := hj; obtain ⟨H1, hj⟩ := hj; obtain ⟨H2, hj⟩ := hj; obtain ⟨H3, hj⟩ := hj; obtain ⟨H4, hj⟩ := hj; obtain ⟨H5, hj⟩ := hj; have HS := hj; clear hj; subst hl_; subst ha_; have q4 : l4 = true := hall 4 (by omega)
                        have q5 : l5 = true := hall 5 (by omega)
                        clear hall; have e4 := (H4.out q4)
                        subst e4; have e5 := (H5.out q5)
                        subst e5; have HK : Hid (Calls Tryz.prog 83 #[.agg #[.string o.uid, .int .i64 o.seq, .bool o.canc, .int .i64 o.days.first, .int .i64 o.days.last, .int .i64 o.days.every, .int .i64 o.days.wd, .slice po o.days.ex.length ko, .slice pp o.days.xt.length kp, .int .i64 o.start, .int .i64 o.mins, .string o.summ, .string o.loc], .agg #[.string e.uid, .int .i64 e.seq, .bool e.canc, .int .i64 e.days.first, .int .i64 e.days.last, .int .i64 e.days.every, .int .i64 e.days.wd, .slice pe e.days.ex.length ke, .slice pf e.days.xt.length kf, .int .i64 e.start, .int .i64 e.mins, .string e.summ, .string e.loc]] x fun z w' => z = .returned (.int .i64 (toldV o.canc e.canc)) ∧ Below x.heap.size x w') := Lib.hid (told83 o e po pp pe pf _ _ _ _ ko kp ke kf x)
                        refine tail_any (fun a x => ∃ (t14 t95 t96 t97 t98 t99 t100 t101 : Value), a = ⟨(.agg #[.int .i64 rv, .int .i64 tag, .slice ar k cr] :: .agg #[.string fn, .int .i64 fv, .slice (some ⟨bf, of, none⟩) m cf] :: .pointer (some ⟨w.heap.size, 0, none⟩) :: .pointer (some ⟨w.heap.size + 1, 0, none⟩) :: .pointer (some ⟨w.heap.size + 1 + 1, 0, none⟩) :: .slice none 0 0 :: .int .i64 0 :: .int .i64 0 :: .pointer (some ⟨S, 0, none⟩) :: undef :: u10 :: .slice pn ns.length cn :: undef :: .pointer (some ⟨wr.heap.size, 0, none⟩) :: t14 :: .int .i64 i :: .bool true :: .agg #[.int .i64 rv, .int .i64 tag, .slice ar k cr] :: .bool true :: .bool false :: undef :: .agg #[.string fn, .int .i64 fv, .slice (some ⟨bf, of, none⟩) m cf] :: .int .i64 0 :: .int .i64 0 :: .bool false :: undef :: undef :: .pointer (some ⟨w.heap.size, 0, none⟩) :: .int .i64 rv :: .pointer (some ⟨w.heap.size, 1, none⟩) :: .int .i64 tag :: .agg #[.int .i64 rv, .int .i64 tag, .slice none 0 0] :: .pointer (some ⟨w.heap.size, 2, none⟩) :: .slice ar k cr :: .int .i64 k :: .int .i64 k :: .bool false :: u37 :: u38 :: u39 :: u40 :: u41 :: u42 :: u43 :: u44 :: u45 :: u46 :: .pointer (some ⟨w.heap.size + 1, 1, none⟩) :: .int .i64 fv :: .pointer (some ⟨w.heap.size, 0, none⟩) :: .int .i64 rv :: .bool false :: undef :: .pointer (some ⟨w.heap.size + 1, 1, none⟩) :: .int .i64 fv :: .pointer (some ⟨S, 0, none⟩) :: .pointer (some ⟨w.heap.size + 1, 2, none⟩) :: .slice (some ⟨bf, of, none⟩) m cf :: .int .i64 m :: .int .i64 j :: .bool true :: .pointer (some ⟨bf, of + j * 13, none⟩) :: .agg #[.string e.uid, .int .i64 e.seq, .bool e.canc, .int .i64 e.days.first, .int .i64 e.days.last, .int .i64 e.days.every, .int .i64 e.days.wd, .slice pe e.days.ex.length ke, .slice pf e.days.xt.length kf, .int .i64 e.start, .int .i64 e.mins, .string e.summ, .string e.loc] :: .tuple #[.int .i64 i, .bool true] :: .pointer (some ⟨S, 2, none⟩) :: .slice (some ⟨g, 0, none⟩) ts.length cu :: .pointer (some ⟨wr.heap.size, 0, none⟩) :: .string e.uid :: .tuple #[.int .i64 i, .bool true] :: .int .i64 i :: .bool true :: .bool false :: .bool true :: .bool false :: u74 :: u75 :: u76 :: u77 :: u78 :: u79 :: u80 :: u81 :: u82 :: u83 :: u84 :: .bool true :: .pointer (some ⟨S, 2, none⟩) :: .slice (some ⟨g, 0, none⟩) ts.length cu :: .int .i64 i :: .pointer (some ⟨g, i * 13, none⟩) :: .pointer (some ⟨g, i * 13 + 1, none⟩) :: .int .i64 o.seq :: .pointer (some ⟨wr.heap.size, 1, none⟩) :: .int .i64 e.seq :: .bool true :: t95 :: t96 :: t97 :: t98 :: t99 :: t100 :: t101 :: u102 :: u103 :: u104 :: u105 :: u106 :: u107 :: u108 :: u109 :: u110 :: u111 :: u112 :: u113 :: u114 :: u115 :: u116 :: u117 :: u118 :: u119 :: undef :: undef :: undef :: undef :: undef :: undef :: undef :: []).toArray, []⟩ ∧ t14 = .int .i64 (toldV o.canc e.canc) ∧ Below X2.heap.size X2 x) ?_ fun QQ hQ => ?_
                        · intro a x hpost; obtain ⟨t14, hpost⟩ := hpost
                          obtain ⟨t95, hpost⟩ := hpost; obtain ⟨t96, hpost⟩ := hpost; obtain ⟨t97, hpost⟩ := hpost; obtain ⟨t98, hpost⟩ := hpost; obtain ⟨t99, hpost⟩ := hpost; obtain ⟨t100, hpost⟩ := hpost; obtain ⟨t101, hpost⟩ := hpost; obtain ⟨ha_, hpost⟩ := hpost; subst ha_; obtain ⟨rfl, hb3⟩ := hpost; obtain ⟨X3, rfl⟩ : ∃ X3, X3 = x := ⟨x, rfl⟩
                          have hNX3 : w.heap.size ≤ X3.heap.size := by have := hb3.size; omega
                          have HB3 := Lib.hid (HB1.out.below hb3 HB1.out.lt)
                          have HT3 := Lib.hid (HT1.out.made hb3)
                          have HO3x := Lib.hid (HO1.out.below hb3 HO1.out.lt)
                          have HN3 := Lib.hid (row_made HN1.out hb3)
                          have HXE3 := Lib.hid (HXE1.out.below hb3 HXE1.out.lt)
                          have HL3x := Lib.hid (HL1.out.trans (hb3.mono hNX2))
                          have HIA3 := Lib.hid (HIA1.out.below (hb3.mono hNX2))
                          have HIB3 := Lib.hid (HIB1.out.below (hb3.mono hNX2))
                          clear hb3; go_wp2_with fail
                          refine wp_region_tail 5 (by kernel_rfl) (fun listed a x => ∃ (l0 l1 l2 l3 l4 : Bool) (t102 t103 t104 t105 t106 : Value), listed = #[l0, l1, l2, l3, l4, false, false] ∧ a = ⟨(.agg #[.int .i64 rv, .int .i64 tag, .slice ar k cr] :: .agg #[.string fn, .int .i64 fv, .slice (some ⟨bf, of, none⟩) m cf] :: .pointer (some ⟨w.heap.size, 0, none⟩) :: .pointer (some ⟨w.heap.size + 1, 0, none⟩) :: .pointer (some ⟨w.heap.size + 1 + 1, 0, none⟩) :: .slice none 0 0 :: .int .i64 0 :: .int .i64 0 :: .pointer (some ⟨S, 0, none⟩) :: undef :: u10 :: .slice pn ns.length cn :: undef :: .pointer (some ⟨wr.heap.size, 0, none⟩) :: .int .i64 (toldV o.canc e.canc) :: .int .i64 i :: .bool true :: .agg #[.int .i64 rv, .int .i64 tag, .slice ar k cr] :: .bool true :: .bool false :: undef :: .agg #[.string fn, .int .i64 fv, .slice (some ⟨bf, of, none⟩) m cf] :: .int .i64 0 :: .int .i64 0 :: .bool false :: undef :: undef :: .pointer (some ⟨w.heap.size, 0, none⟩) :: .int .i64 rv :: .pointer (some ⟨w.heap.size, 1, none⟩) :: .int .i64 tag :: .agg #[.int .i64 rv, .int .i64 tag, .slice none 0 0] :: .pointer (some ⟨w.heap.size, 2, none⟩) :: .slice ar k cr :: .int .i64 k :: .int .i64 k :: .bool false :: u37 :: u38 :: u39 :: u40 :: u41 :: u42 :: u43 :: u44 :: u45 :: u46 :: .pointer (some ⟨w.heap.size + 1, 1, none⟩) :: .int .i64 fv :: .pointer (some ⟨w.heap.size, 0, none⟩) :: .int .i64 rv :: .bool false :: undef :: .pointer (some ⟨w.heap.size + 1, 1, none⟩) :: .int .i64 fv :: .pointer (some ⟨S, 0, none⟩) :: .pointer (some ⟨w.heap.size + 1, 2, none⟩) :: .slice (some ⟨bf, of, none⟩) m cf :: .int .i64 m :: .int .i64 j :: .bool true :: .pointer (some ⟨bf, of + j * 13, none⟩) :: .agg #[.string e.uid, .int .i64 e.seq, .bool e.canc, .int .i64 e.days.first, .int .i64 e.days.last, .int .i64 e.days.every, .int .i64 e.days.wd, .slice pe e.days.ex.length ke, .slice pf e.days.xt.length kf, .int .i64 e.start, .int .i64 e.mins, .string e.summ, .string e.loc] :: .tuple #[.int .i64 i, .bool true] :: .pointer (some ⟨S, 2, none⟩) :: .slice (some ⟨g, 0, none⟩) ts.length cu :: .pointer (some ⟨wr.heap.size, 0, none⟩) :: .string e.uid :: .tuple #[.int .i64 i, .bool true] :: .int .i64 i :: .bool true :: .bool false :: .bool true :: .bool false :: u74 :: u75 :: u76 :: u77 :: u78 :: u79 :: u80 :: u81 :: u82 :: u83 :: u84 :: .bool true :: .pointer (some ⟨S, 2, none⟩) :: .slice (some ⟨g, 0, none⟩) ts.length cu :: .int .i64 i :: .pointer (some ⟨g, i * 13, none⟩) :: .pointer (some ⟨g, i * 13 + 1, none⟩) :: .int .i64 o.seq :: .pointer (some ⟨wr.heap.size, 1, none⟩) :: .int .i64 e.seq :: .bool true :: t95 :: t96 :: t97 :: t98 :: t99 :: t100 :: t101 :: t102 :: t103 :: t104 :: t105 :: t106 :: u107 :: u108 :: u109 :: u110 :: u111 :: u112 :: u113 :: u114 :: u115 :: u116 :: u117 :: u118 :: u119 :: undef :: undef :: undef :: undef :: undef :: undef :: undef :: []).toArray, []⟩ ∧ Hid (l0 = true → t102 = .pointer (some ⟨S, 2, none⟩)) ∧ Hid (l1 = true → t103 = .slice (some ⟨g, 0, none⟩) ts.length cu) ∧ Hid (l2 = true → t104 = .int .i64 i) ∧ Hid (l3 = true → t105 = .agg #[.string e.uid, .int .i64 e.seq, .bool e.canc, .int .i64 e.days.first, .int .i64 e.days.last, .int .i64 e.days.every, .int .i64 e.days.wd, .slice pe e.days.ex.length ke, .slice pf e.days.xt.length kf, .int .i64 e.start, .int .i64 e.mins, .string e.summ, .string e.loc]) ∧ Hid (l4 = true → ∃ (q : Option Addr) (d : Nat) (q2 : Option Addr) (d2 : Nat), t106 = evVal e (.slice q e.days.ex.length d) (.slice q2 e.days.xt.length d2) ∧ RowI X3.heap.size x (.slice q e.days.ex.length d) e.days.ex ∧ RowI X3.heap.size x (.slice q2 e.days.xt.length d2) e.days.xt) ∧ Hid (Made X3 x)) (by decide) (by kernel_rfl) (by kernel_rfl) ?_ ?_ ?_ ?_
                          · exact ⟨false, false, false, false, false, _, _, _, _, _, rfl, rfl, Lib.hid (fun h => by cases h), Lib.hid (fun h => by cases h), Lib.hid (fun h => by cases h), Lib.hid (fun h => by cases h), Lib.hid (fun h => by cases h), Lib.hid (Made.start X3)⟩
                          · intro listed a x hj; obtain ⟨l0, hj⟩ := hj
                            obtain ⟨l1, hj⟩ := hj; obtain ⟨l2, hj⟩ := hj; obtain ⟨l3, hj⟩ := hj; obtain ⟨l4, hj⟩ := hj; obtain ⟨t102, hj⟩ := hj; obtain ⟨t103, hj⟩ := hj; obtain ⟨t104, hj⟩ := hj; obtain ⟨t105, hj⟩ := hj; obtain ⟨t106, hj⟩ := hj; obtain ⟨h1, -⟩ := hj; subst h1; exact ⟨rfl, fun k h1 h2 => by (have h2 : k < 7 := h2); rcases (show k = 5 ∨ k = 6 by omega) with rfl | rfl <;> rfl⟩
                          · intro listed a x i hj hlt hu haf; obtain ⟨l0, hj⟩ := hj
                            obtain ⟨l1, hj⟩ := hj; obtain ⟨l2, hj⟩ := hj; obtain ⟨l3, hj⟩ := hj; obtain ⟨l4, hj⟩ := hj; obtain ⟨t102, hj⟩ := hj; obtain ⟨t103, hj⟩ := hj; obtain ⟨t104, hj⟩ := hj; obtain ⟨t105, hj⟩ := hj; obtain ⟨t106, hj⟩ := hj; obtain ⟨hl_, hj⟩ := hj; obtain ⟨ha_, hj⟩ := hj; obtain ⟨H0, hj⟩ := hj; obtain ⟨H1, hj⟩ := hj; obtain ⟨H2, hj⟩ := hj; obtain ⟨H3, hj⟩ := hj; obtain ⟨H4, hj⟩ := hj; have HS := hj; clear hj; subst hl_; subst ha_; rcases (show ∀ i : Nat, i < 5 → (i = 0 ∨ i = 1 ∨ i = 2 ∨ i = 3 ∨ i = 4) by decide) i hlt with rfl | rfl | rfl | rfl | rfl
                            · have haf := haf _ rfl; clear haf
                              have hu : l0 = false := hu
                              refine wpOp_of_list_any rfl fun QQ hQ => ?_
                              have hQQ := Lib.hid hQ; clear hQ; simp only [List.getElem_toArray, List.getElem_cons_zero]
                              go_wp2_with fail
                              exact hQQ.out _ _ ⟨true, l1, l2, l3, l4, _, _, _, _, _, rfl, rfl, Lib.hid (fun _ => rfl), H1, H2, H3, H4, HS⟩
                            · have haf := haf _ rfl; have q0 : l0 = true := haf ⟨0, Go.Ground.data⟩ (by simp) rfl
                              clear haf; have hu : l1 = false := hu
                              have e0 := (H0.out q0)
                              subst e0; clear H0; have hc : x.cell? ⟨S, 2, none⟩ = some (.slice (some ⟨g, 0, none⟩) ts.length cu) := (HS.out.blk HB3.out).cell 2
                              refine wpOp_of_list_any rfl fun QQ hQ => ?_
                              have hQQ := Lib.hid hQ; clear hQ; simp only [List.getElem_toArray, List.getElem_cons_zero, List.getElem_cons_succ]
                              go_wp2_with fail
                              exact hQQ.out _ _ ⟨l0, true, l2, l3, l4, _, _, _, _, _, rfl, rfl, Lib.hid (fun _ => rfl), Lib.hid (fun _ => rfl), H2, H3, H4, HS⟩
                            · have haf := haf _ rfl; clear haf
                              have hu : l2 = false := hu
                              refine wpOp_of_list_any rfl fun QQ hQ => ?_
                              have hQQ := Lib.hid hQ; clear hQ; simp only [List.getElem_toArray, List.getElem_cons_zero, List.getElem_cons_succ]
                              go_wp2_with fail
                              exact hQQ.out _ _ ⟨l0, l1, true, l3, l4, _, _, _, _, _, rfl, rfl, H0, H1, Lib.hid (fun _ => rfl), H3, H4, HS⟩
                            · have haf := haf _ rfl; clear haf
                              have hu : l3 = false := hu
                              have y0 : x.cell? ⟨wr.heap.size, 0, none⟩ = some (.string e.uid) := (HS.out.blk HXE3.out).cell 0
                              have y1 : x.cell? ⟨wr.heap.size, 1, none⟩ = some (.int .i64 e.seq) := (HS.out.blk HXE3.out).cell 1
                              have y2 : x.cell? ⟨wr.heap.size, 2, none⟩ = some (.bool e.canc) := (HS.out.blk HXE3.out).cell 2
                              have y3 : x.cell? ⟨wr.heap.size, 3, none⟩ = some (.int .i64 e.days.first) := (HS.out.blk HXE3.out).cell 3
                              have y4 : x.cell? ⟨wr.heap.size, 4, none⟩ = some (.int .i64 e.days.last) := (HS.out.blk HXE3.out).cell 4
                              have y5 : x.cell? ⟨wr.heap.size, 5, none⟩ = some (.int .i64 e.days.every) := (HS.out.blk HXE3.out).cell 5
                              have y6 : x.cell? ⟨wr.heap.size, 6, none⟩ = some (.int .i64 e.days.wd) := (HS.out.blk HXE3.out).cell 6
                              have y7 : x.cell? ⟨wr.heap.size, 7, none⟩ = some (.slice pe e.days.ex.length ke) := (HS.out.blk HXE3.out).cell 7
                              have y8 : x.cell? ⟨wr.heap.size, 8, none⟩ = some (.slice pf e.days.xt.length kf) := (HS.out.blk HXE3.out).cell 8
                              have y9 : x.cell? ⟨wr.heap.size, 9, none⟩ = some (.int .i64 e.start) := (HS.out.blk HXE3.out).cell 9
                              have y10 : x.cell? ⟨wr.heap.size, 10, none⟩ = some (.int .i64 e.mins) := (HS.out.blk HXE3.out).cell 10
                              have y11 : x.cell? ⟨wr.heap.size, 11, none⟩ = some (.string e.summ) := (HS.out.blk HXE3.out).cell 11
                              have y12 : x.cell? ⟨wr.heap.size, 12, none⟩ = some (.string e.loc) := (HS.out.blk HXE3.out).cell 12
                              refine wpOp_of_list_any rfl fun QQ hQ => ?_
                              have hQQ := Lib.hid hQ; clear hQ; simp only [List.getElem_toArray, List.getElem_cons_zero, List.getElem_cons_succ]
                              go_wp2_with fail
                              exact hQQ.out _ _ ⟨l0, l1, l2, true, l4, _, _, _, _, _, rfl, rfl, H0, H1, H2, Lib.hid (fun _ => rfl), H4, HS⟩
                            · have haf := haf _ rfl; have q3 : l3 = true := haf ⟨3, Go.Ground.data⟩ (by simp) rfl
                              clear haf; have hu : l4 = false := hu
                              have e3 := (H3.out q3)
                              subst e3; clear H3; refine wpOp_of_list_any rfl fun QQ hQ => ?_
                              have hQQ := Lib.hid hQ; clear hQ; simp only [List.getElem_toArray, List.getElem_cons_zero, List.getElem_cons_succ]
                              go_wp2_with fail
                              refine (show Calls Tryz.prog 80 #[.agg #[.string e.uid, .int .i64 e.seq, .bool e.canc, .int .i64 e.days.first, .int .i64 e.days.last, .int .i64 e.days.every, .int .i64 e.days.wd, .slice pe e.days.ex.length ke, .slice pf e.days.xt.length kf, .int .i64 e.start, .int .i64 e.mins, .string e.summ, .string e.loc]] x (Twin e x) from twin80 e pe pf ke kf x ((HIA3.out.below (HS.out.below.mono hNX3)).mono (Nat.le_trans hNX3 HS.out.below.size)) ((HIB3.out.below (HS.out.below.mono hNX3)).mono (Nat.le_trans hNX3 HS.out.below.size)) HLE.out.1 HLE.out.2).mono ?_
                              rintro y x1 ⟨q, d, q2, d2, rfl, hX, hY, hb1⟩; have hk := Kept.made (B := X3.heap.size) hb1
                              have HS1 := Lib.hid (HS.out.then hb1)
                              have HX1 := Lib.hid (ownsRow_mono hX HS.out.below.size)
                              have HY1 := Lib.hid (ownsRow_mono hY HS.out.below.size)
                              clear hb1 hX hY; go_wp2_with fail
                              exact hQQ.out _ _ ⟨l0, l1, l2, l3, true, _, _, _, _, _, rfl, rfl, H0, H1, H2, Lib.hid (fun _ => rfl), Lib.hid (fun _ => ⟨q, d, q2, d2, rfl, HX1.out, HY1.out⟩), HS1⟩
                          · intro listed a x hj hall; obtain ⟨l0, hj⟩ := hj
                            obtain ⟨l1, hj⟩ := hj; obtain ⟨l2, hj⟩ := hj; obtain ⟨l3, hj⟩ := hj; obtain ⟨l4, hj⟩ := hj; obtain ⟨t102, hj⟩ := hj; obtain ⟨t103, hj⟩ := hj; obtain ⟨t104, hj⟩ := hj; obtain ⟨t105, hj⟩ := hj; obtain ⟨t106, hj⟩ := hj; obtain ⟨hl_, hj⟩ := hj; obtain ⟨ha_, hj⟩ := hj; obtain ⟨H0, hj⟩ := hj; obtain ⟨H1, hj⟩ := hj; obtain ⟨H2, hj⟩ := hj; obtain ⟨H3, hj⟩ := hj; obtain ⟨H4, hj⟩ := hj; have HS := hj; clear hj; subst hl_; subst ha_; have q1 : l1 = true := hall 1 (by omega)
                            have q2 : l2 = true := hall 2 (by omega)
                            have q4 : l4 = true := hall 4 (by omega)
                            clear hall; have e1 := (H1.out q1)
                            subst e1; have e2 := (H2.out q2)
                            subst e2; obtain ⟨q4, d4, q24, d24, e4, c4_0, c4_1⟩ := (H4.out q4)
                            subst e4; have HTH := Lib.hid (HT3.out.made HS.out.below)
                            have HBH := Lib.hid (HS.out.blk HB3.out)
                            have HOH := Lib.hid (HS.out.blk HO3x.out)
                            have HNH := Lib.hid (row_made HN3.out HS.out.below)
                            have HEH := Lib.hid (HS.out.blk HXE3.out)
                            have HLH := Lib.hid (HL3x.out.trans (HS.out.below.mono hNX3))
                            have HRfH := Lib.hid (show RefT w.heap.size x (e, (.slice q4 e.days.ex.length d4), (.slice q24 e.days.xt.length d24)) from ⟨HEB.out, ownsRow_mono c4_0 hNX3, ownsRow_mono c4_1 hNX3⟩)
                            obtain ⟨W, hW, T9, G9⟩ := HTH.out.store rfl i e (.slice q4 e.days.ex.length d4) (.slice q24 e.days.xt.length d24) hilt HRfH.out
                            have HWH := Lib.hid hW; have HT9 := Lib.hid T9; have HS9 := Lib.hid ((G9.block S HBH.out.lt (by intro h; cases h; exact hgS rfl)).trans HBH.out)
                            have HO9 := Lib.hid ((G9.block (w.heap.size + 2) HOH.out.lt (by intro h; cases h; exact hgO rfl)).trans HOH.out)
                            have HE9 := Lib.hid ((G9.block wr.heap.size HEH.out.lt (by intro h; cases h; exact hgE rfl)).trans HEH.out)
                            have HN9 := Lib.hid (World.ownsRow.kept (show x.ownsRow w.heap.size 99 3 _ _ _ from HNH.out) (show x.grownBy W (Value.slice (some ⟨g, 0, none⟩) ts.length cu).ownBlock from G9) (row_apart_ty (show x.ownsRow w.heap.size 99 3 _ _ _ from HNH.out) HTH.out.row (by decide)))
                            have HL9 := Lib.hid (below_grownBy HLH.out HTH.out.row (Nat.le_refl _) HLH.out.size (show x.grownBy W (Value.slice (some ⟨g, 0, none⟩) ts.length cu).ownBlock from G9))
                            have HPM := Lib.hid (show (ts.set i (e, (.slice q4 e.days.ex.length d4), (.slice q24 e.days.xt.length d24))).map (·.1) = putE e (ts.map (·.1)) from by rw [← place_some (t := (e, (.slice q4 e.days.ex.length d4), (.slice q24 e.days.xt.length d24))) HI.out.2.1 HTI.out HCO.out, putT_map])
                            have HUL := Lib.hid (show (ts.set i (e, (.slice q4 e.days.ex.length d4), (.slice q24 e.days.xt.length d24))).length = ts.length from List.length_set)
                            obtain ⟨a0, a1, a2, a3, a4, a5, a6, a7, a8, a9, a10, a11, a12⟩ := HTH.out.ev i _ HTI.out
                            simp only at a0 a1 a2 a3 a4 a5 a6 a7 a8 a9 a10 a11 a12
                            have z0 := World.ownsRow.frozenAt HTH.out.row (i * 13)
                            have z1 := World.ownsRow.frozenAt HTH.out.row (i * 13 + 1)
                            have z2 := World.ownsRow.frozenAt HTH.out.row (i * 13 + 2)
                            have z3 := World.ownsRow.frozenAt HTH.out.row (i * 13 + 3)
                            have z4 := World.ownsRow.frozenAt HTH.out.row (i * 13 + 4)
                            have z5 := World.ownsRow.frozenAt HTH.out.row (i * 13 + 5)
                            have z6 := World.ownsRow.frozenAt HTH.out.row (i * 13 + 6)
                            have z7 := World.ownsRow.frozenAt HTH.out.row (i * 13 + 7)
                            have z8 := World.ownsRow.frozenAt HTH.out.row (i * 13 + 8)
                            have z9 := World.ownsRow.frozenAt HTH.out.row (i * 13 + 9)
                            have z10 := World.ownsRow.frozenAt HTH.out.row (i * 13 + 10)
                            have z11 := World.ownsRow.frozenAt HTH.out.row (i * 13 + 11)
                            have z12 := World.ownsRow.frozenAt HTH.out.row (i * 13 + 12)
                            clear hW T9 G9 c4_0 c4_1; refine tail_any (fun a x => ∃ (t102 t103 t104 t105 t106 t107 : Value), a = ⟨(.agg #[.int .i64 rv, .int .i64 tag, .slice ar k cr] :: .agg #[.string fn, .int .i64 fv, .slice (some ⟨bf, of, none⟩) m cf] :: .pointer (some ⟨w.heap.size, 0, none⟩) :: .pointer (some ⟨w.heap.size + 1, 0, none⟩) :: .pointer (some ⟨w.heap.size + 1 + 1, 0, none⟩) :: .slice none 0 0 :: .int .i64 0 :: .int .i64 0 :: .pointer (some ⟨S, 0, none⟩) :: undef :: u10 :: .slice pn ns.length cn :: undef :: .pointer (some ⟨wr.heap.size, 0, none⟩) :: .int .i64 (toldV o.canc e.canc) :: .int .i64 i :: .bool true :: .agg #[.int .i64 rv, .int .i64 tag, .slice ar k cr] :: .bool true :: .bool false :: undef :: .agg #[.string fn, .int .i64 fv, .slice (some ⟨bf, of, none⟩) m cf] :: .int .i64 0 :: .int .i64 0 :: .bool false :: undef :: undef :: .pointer (some ⟨w.heap.size, 0, none⟩) :: .int .i64 rv :: .pointer (some ⟨w.heap.size, 1, none⟩) :: .int .i64 tag :: .agg #[.int .i64 rv, .int .i64 tag, .slice none 0 0] :: .pointer (some ⟨w.heap.size, 2, none⟩) :: .slice ar k cr :: .int .i64 k :: .int .i64 k :: .bool false :: u37 :: u38 :: u39 :: u40 :: u41 :: u42 :: u43 :: u44 :: u45 :: u46 :: .pointer (some ⟨w.heap.size + 1, 1, none⟩) :: .int .i64 fv :: .pointer (some ⟨w.heap.size, 0, none⟩) :: .int .i64 rv :: .bool false :: undef :: .pointer (some ⟨w.heap.size + 1, 1, none⟩) :: .int .i64 fv :: .pointer (some ⟨S, 0, none⟩) :: .pointer (some ⟨w.heap.size + 1, 2, none⟩) :: .slice (some ⟨bf, of, none⟩) m cf :: .int .i64 m :: .int .i64 j :: .bool true :: .pointer (some ⟨bf, of + j * 13, none⟩) :: .agg #[.string e.uid, .int .i64 e.seq, .bool e.canc, .int .i64 e.days.first, .int .i64 e.days.last, .int .i64 e.days.every, .int .i64 e.days.wd, .slice pe e.days.ex.length ke, .slice pf e.days.xt.length kf, .int .i64 e.start, .int .i64 e.mins, .string e.summ, .string e.loc] :: .tuple #[.int .i64 i, .bool true] :: .pointer (some ⟨S, 2, none⟩) :: .slice (some ⟨g, 0, none⟩) ts.length cu :: .pointer (some ⟨wr.heap.size, 0, none⟩) :: .string e.uid :: .tuple #[.int .i64 i, .bool true] :: .int .i64 i :: .bool true :: .bool false :: .bool true :: .bool false :: u74 :: u75 :: u76 :: u77 :: u78 :: u79 :: u80 :: u81 :: u82 :: u83 :: u84 :: .bool true :: .pointer (some ⟨S, 2, none⟩) :: .slice (some ⟨g, 0, none⟩) ts.length cu :: .int .i64 i :: .pointer (some ⟨g, i * 13, none⟩) :: .pointer (some ⟨g, i * 13 + 1, none⟩) :: .int .i64 o.seq :: .pointer (some ⟨wr.heap.size, 1, none⟩) :: .int .i64 e.seq :: .bool true :: t95 :: t96 :: t97 :: t98 :: t99 :: t100 :: t101 :: t102 :: t103 :: t104 :: t105 :: t106 :: t107 :: u108 :: u109 :: u110 :: u111 :: u112 :: u113 :: u114 :: u115 :: u116 :: u117 :: u118 :: u119 :: undef :: undef :: undef :: undef :: undef :: undef :: undef :: []).toArray, []⟩ ∧ ∃ (pu2 : Option Addr) (cu2 : Nat) (us : List (Ev × Value × Value)), us.map (·.1) = putE e (ts.map (·.1)) ∧ Blk S #[.int .i64 fv, .int .i64 tag, .slice pu2 us.length cu2] 24 x ∧ Blk (w.heap.size + 2) #[.int .i64 0, .int .i64 0, .slice none 0 0] 24 x ∧ RowT w.heap.size x (.slice pu2 us.length cu2) us ∧ RowN w.heap.size x (.slice pn ns.length cn) ns ∧ Blk wr.heap.size (evCells e (.slice pe e.days.ex.length ke) (.slice pf e.days.xt.length kf)) 82 x ∧ Below w.heap.size w x) ?_ fun QQ hQ => ?_
                            · intro a x hpost; obtain ⟨t102, hpost⟩ := hpost
                              obtain ⟨t103, hpost⟩ := hpost; obtain ⟨t104, hpost⟩ := hpost; obtain ⟨t105, hpost⟩ := hpost; obtain ⟨t106, hpost⟩ := hpost; obtain ⟨t107, hpost⟩ := hpost; obtain ⟨ha_, hpost⟩ := hpost; subst ha_; obtain ⟨pu2, cu2, us, p0, p1, p2, p3, p4, p5, p6⟩ := hpost; have HST := Lib.hid (show (us.map (·.1), noteN (toldV o.canc e.canc) e ns) = mrg es (fes.take (j + 1)) from by
                                rw [mrg_take es fes j e HFK.out, ← HM.out, p0, stepM_some (sought_some HI.out.2.1 HOI.out HCO.out) HOI.out, if_pos HSQ.out])
                              have P1 := Lib.hid p1; have P2 := Lib.hid p2; have P3 := Lib.hid p3; have P4 := Lib.hid p4; have P5 := Lib.hid p5; have P6 := Lib.hid p6; clear p0 p1 p2 p3 p4 p5 p6; go_wp2_with fail
                              go_meet
                              exact ⟨_, pu2, cu2, us, rfl, P1, P2, P3, P4, P5, P6, HST⟩
                            have hQQ := Lib.hid hQ; clear hQ; simp only [List.drop_succ_cons, List.drop_zero]
                            unfold evVal evCells
                            go_wp2_with fail
                            rw [← HWH.out]; exact hQQ.out _ _ ⟨_, _, _, _, _, _, rfl, _, _, _, HPM.out, by rw [HUL.out]; exact HS9.out, HO9.out, by rw [HUL.out]; exact HT9.out, HN9.out, HE9.out, HL9.out⟩
                        have hQQ := Lib.hid hQ; clear hQ; simp only [List.drop_succ_cons, List.drop_zero]
                        go_wp2_with fail
                        refine HK.out.mono ?_
                        rintro z x9 ⟨rfl, hb9⟩; have HL9 := Lib.hid (HS.out.below.trans (hb9.mono HS.out.below.size))
                        clear hb9; go_wp2_with fail
                        exact hQQ.out _ _ ⟨_, _, _, _, _, _, _, _, rfl, rfl, HL9.out⟩
                    · go_wp2_with fail
                      go_quiet (fail)
                      go_wp2_with fail
                      have HST := Lib.hid (show (ts.map (·.1), noteN 0 e ns) = mrg es (fes.take (j + 1)) from by rw [mrg_take es fes j e HFK.out, ← HM.out, stepM_some (sought_some HI.out.2.1 HOI.out HCO.out) HOI.out, if_neg (by omega)]; rfl)
                      go_meet
                      exact ⟨0, _, cu, ts, rfl, HB1, HO1, Lib.hid (HT1.out.made (below_drewN (Below.refl _ _) _)), HN1, HXE1, Lib.hid (below_drewN HL1.out _), HST⟩
                case rest =>
                  clear HB1 HT1 HO1 HN1 HL1 HIA1 HIB1 HXE1 hXs2 HX1; obtain ⟨K, pu2, cu2, us, rfl, HB2, HO2x, HT2, HN2, HE2, HL2x, HST⟩ := hcut; have hNw : w.heap.size ≤ wc.heap.size := HL2x.out.size
                  by_cases hK : K = 0
                  · subst hK; have HST2 := Lib.hid (show (us.map (·.1), ns) = mrg es (fes.take (j + 1)) from by have h := HST.out; unfold noteN at h; rw [if_pos rfl] at h; exact h)
                    clear HST; go_wp2_with fail
                    go_roundw
                    case rel => exact ⟨j + 1, pu2, cu2, us, pn, cn, ns, rfl, by go_num, by omega, HB2, HO2x, HT2, HN2, HST2, HL2x⟩
                    case measure => simp [intOf]; omega
                  · have HST2 := Lib.hid (show (us.map (·.1), ns ++ [⟨K, e.uid, e.seq⟩]) = mrg es (fes.take (j + 1)) from by have h := HST.out; unfold noteN at h; rw [if_neg hK] at h; exact h)
                    clear HST; have y0 : wc.cell? ⟨wr.heap.size, 0, none⟩ = some (.string e.uid) := HE2.out.cell 0
                    have y1 : wc.cell? ⟨wr.heap.size, 1, none⟩ = some (.int .i64 e.seq) := HE2.out.cell 1
                    have hA1 : ns.length + 1 ≤ maxLen := by have := HQ.out.2; unfold maxLen; omega
                    have hA2 : (ns.length + 1) * 32 ≤ 140737488355328 := by have := HQ.out.2; omega
                    go_wp2_with (at_builtin; refine wpList_append_own_at _ rfl (.tmp 110) (.tmp 117) 41 rfl w.heap.size 99 i1 _ 3 32 Tryz.underlying41 hj hy0 hy1 hy2 rfl (by decide) _ _ _ rfl (World.ownsRow.alloc HN2.out (.cells #[.int .i64 K, .string e.uid, .int .i64 e.seq] 99)) ⟨wc.heap.size, 0, none⟩ 1 1 [.int .i64 K, .string e.uid, .int .i64 e.seq] rfl rfl (blk_cells (Blk.new wc #[.int .i64 K, .string e.uid, .int .i64 e.seq] 99)) (by intro u hu; simp only [List.mem_cons, List.not_mem_nil, or_false] at hu; rcases hu with rfl | rfl | rfl <;> rfl) hA1 hA2 (by simp; omega) ?_)
                    intro v' x8 hown8 hgrow _ _; obtain ⟨p8, q8, hv8⟩ := ownsRow_len hown8
                    subst hv8; have HS8 := Lib.hid ((HB2.out.alloc (.cells #[.int .i64 K, .string e.uid, .int .i64 e.seq] 99)).grown (World.ownsRow.alloc HN2.out (.cells #[.int .i64 K, .string e.uid, .int .i64 e.seq] 99)) hgrow (by decide))
                    have HO8 := Lib.hid ((HO2x.out.alloc (.cells #[.int .i64 K, .string e.uid, .int .i64 e.seq] 99)).grown (World.ownsRow.alloc HN2.out (.cells #[.int .i64 K, .string e.uid, .int .i64 e.seq] 99)) hgrow (by decide))
                    have HT8 := Lib.hid (show RowT w.heap.size x8 (.slice pu2 us.length cu2) us from ⟨World.ownsRow.kept (World.ownsRow.alloc HT2.out.row (.cells #[.int .i64 K, .string e.uid, .int .i64 e.seq] 99)) hgrow (row_apart_ty (World.ownsRow.alloc HT2.out.row (.cells #[.int .i64 K, .string e.uid, .int .i64 e.seq] 99)) (World.ownsRow.alloc HN2.out (.cells #[.int .i64 K, .string e.uid, .int .i64 e.seq] 99)) (by decide)), fun s hs => ⟨(HT2.out.ref s hs).1, World.ownsRow.kept (World.ownsRow.alloc (HT2.out.ref s hs).2.1 (.cells #[.int .i64 K, .string e.uid, .int .i64 e.seq] 99)) hgrow (row_apart_ty (World.ownsRow.alloc (HT2.out.ref s hs).2.1 (.cells #[.int .i64 K, .string e.uid, .int .i64 e.seq] 99)) (World.ownsRow.alloc HN2.out (.cells #[.int .i64 K, .string e.uid, .int .i64 e.seq] 99)) (by decide)), World.ownsRow.kept (World.ownsRow.alloc (HT2.out.ref s hs).2.2 (.cells #[.int .i64 K, .string e.uid, .int .i64 e.seq] 99)) hgrow (row_apart_ty (World.ownsRow.alloc (HT2.out.ref s hs).2.2 (.cells #[.int .i64 K, .string e.uid, .int .i64 e.seq] 99)) (World.ownsRow.alloc HN2.out (.cells #[.int .i64 K, .string e.uid, .int .i64 e.seq] 99)) (by decide))⟩⟩)
                    have HL8 := Lib.hid (below_grownBy (HL2x.out.alloc hNw (.cells #[.int .i64 K, .string e.uid, .int .i64 e.seq] 99)) (World.ownsRow.alloc HN2.out (.cells #[.int .i64 K, .string e.uid, .int .i64 e.seq] 99)) (Nat.le_refl _) (by simp; omega) hgrow)
                    have HN8 := Lib.hid (RowN.snoc (n := ⟨K, e.uid, e.seq⟩) hown8)
                    clear hgrow hown8 HB2 HO2x HT2 HN2 HE2 HL2x y0 y1; go_wp2_with fail
                    go_roundw
                    case rel => exact ⟨j + 1, pu2, cu2, us, p8, q8, ns ++ [⟨K, e.uid, e.seq⟩], by simp, by go_num, by omega, HS8, HO8, HT8, Lib.hid (by simpa using HN8.out), HST2, HL8⟩
                    case measure => simp [intOf]; omega
              · have hlti : ¬ (j : Int) < m := by omega
                have hjm2 : j = m := by omega
                have HMA := Lib.hid (show (ts.map (·.1), ns) = mrg es fes from by rw [HM.out, hjm2, ← HLM.out, mrg_all])
                have s0 : wr.cell? ⟨S, 0, none⟩ = some (.int .i64 fv) := HB.out.cell 0
                have s1 : wr.cell? ⟨S, 1, none⟩ = some (.int .i64 tag) := HB.out.cell 1
                have s2 : wr.cell? ⟨S, 2, none⟩ = some (.slice pu ts.length cu) := HB.out.cell 2
                by_cases hbig : 256 < (ts.length : Int)
                · have HM : Hid (mergeV rv tag es fn fv fes = (0, 0, [], [], 2)) := Lib.hid (by unfold mergeV; rw [if_neg (by rw [HOK.out]; simp), if_neg (by rw [← HFV.out]; simp), if_neg (by omega), ← HMA.out, if_pos (by show 256 < ((ts.map (·.1)).length : Int); rw [List.length_map]; exact hbig)])
                  have r0 : wr.cell? ⟨w.heap.size + 2, 0, none⟩ = some (.int .i64 0) := HO.out.cell 0
                  have r1 : wr.cell? ⟨w.heap.size + 2, 1, none⟩ = some (.int .i64 0) := HO.out.cell 1
                  have r2 : wr.cell? ⟨w.heap.size + 2, 2, none⟩ = some (.slice none 0 0) := HO.out.cell 2
                  have z0 := HO.out.frozen 0; have z1 := HO.out.frozen 1; have z2 := HO.out.frozen 2; go_wp2_with fail
                  have B3 := ((HO.out.set 0 (.int .i64 0)).set 1 (.int .i64 0)).set 2 (.slice none 0 0)
                  have L3 := ((HL.out.setCell (show w.heap.size ≤ (⟨w.heap.size + 2, 0, none⟩ : Addr).block from by show w.heap.size ≤ w.heap.size + 2; omega) (.int .i64 0)).setCell (show w.heap.size ≤ (⟨w.heap.size + 2, 1, none⟩ : Addr).block from by show w.heap.size ≤ w.heap.size + 2; omega) (.int .i64 0)).setCell (show w.heap.size ≤ (⟨w.heap.size + 2, 2, none⟩ : Addr).block from by show w.heap.size ≤ w.heap.size + 2; omega) (.slice none 0 0)
                  obtain ⟨W, hW⟩ : ∃ W, W = ((wr.setCell ⟨w.heap.size + 2, 0, none⟩ (.int .i64 0)).setCell ⟨w.heap.size + 2, 1, none⟩ (.int .i64 0)).setCell ⟨w.heap.size + 2, 2, none⟩ (.slice none 0 0) := ⟨_, rfl⟩
                  rw [← hW] at B3 L3 ⊢
                  clear hW r0 r1 r2 z0 z1 z2; have r0 : W.cell? ⟨w.heap.size + 2, 0, none⟩ = some (.int .i64 0) := B3.cell 0
                  have r1 : W.cell? ⟨w.heap.size + 2, 1, none⟩ = some (.int .i64 0) := B3.cell 1
                  have r2 : W.cell? ⟨w.heap.size + 2, 2, none⟩ = some (.slice none 0 0) := B3.cell 2
                  refine bodyPost_ret (v := .tuple #[.agg #[.int .i64 0, .int .i64 0, .slice none 0 0], .slice none 0 0, .int .i64 2]) (by simp [results, Tryz.results26, go_sem, r0, r1, r2]) rfl ?_
                  exact ⟨0, 0, 2, none, 0, [], none, 0, [], rfl, HM.out.symm, RowT.nil _ _, RowN.nil _ _, L3⟩
                · have HMV : Hid (mergeV rv tag es fn fv fes = (fv, tag, ts.map (·.1), ns, 0)) := Lib.hid (by unfold mergeV; rw [if_neg (by rw [HOK.out]; simp), if_neg (by rw [← HFV.out]; simp), if_neg (by omega), ← HMA.out, if_neg (by show ¬ 256 < ((ts.map (·.1)).length : Int); rw [List.length_map]; exact hbig)])
                  have r0 : wr.cell? ⟨w.heap.size + 2, 0, none⟩ = some (.int .i64 0) := HO.out.cell 0
                  have r1 : wr.cell? ⟨w.heap.size + 2, 1, none⟩ = some (.int .i64 0) := HO.out.cell 1
                  have r2 : wr.cell? ⟨w.heap.size + 2, 2, none⟩ = some (.slice none 0 0) := HO.out.cell 2
                  have z0 := HO.out.frozen 0; have z1 := HO.out.frozen 1; have z2 := HO.out.frozen 2; go_wp2_with fail
                  have B3 := (((HO.out.set 0 (.int .i64 fv)).set 1 (.int .i64 tag)).set 2 (.slice pu ts.length cu))
                  have T3 := ((HT.out.set HO.out (by decide) (by decide) 0 (.int .i64 fv)).set (HO.out.set 0 (.int .i64 fv)) (by decide) (by decide) 1 (.int .i64 tag)).set ((HO.out.set 0 (.int .i64 fv)).set 1 (.int .i64 tag)) (by decide) (by decide) 2 (.slice pu ts.length cu)
                  have L3 := ((HL.out.setCell (show w.heap.size ≤ (⟨w.heap.size + 2, 0, none⟩ : Addr).block from by show w.heap.size ≤ w.heap.size + 2; omega) (.int .i64 fv)).setCell (show w.heap.size ≤ (⟨w.heap.size + 2, 1, none⟩ : Addr).block from by show w.heap.size ≤ w.heap.size + 2; omega) (.int .i64 tag)).setCell (show w.heap.size ≤ (⟨w.heap.size + 2, 2, none⟩ : Addr).block from by show w.heap.size ≤ w.heap.size + 2; omega) (.slice pu ts.length cu)
                  have N3 := row_set (row_set (row_set HNt.out HO.out (by decide) 0 (.int .i64 fv)) (HO.out.set 0 (.int .i64 fv)) (by decide) 1 (.int .i64 tag)) ((HO.out.set 0 (.int .i64 fv)).set 1 (.int .i64 tag)) (by decide) 2 (.slice pu ts.length cu)
                  obtain ⟨W, hW⟩ : ∃ W, W = ((wr.setCell ⟨w.heap.size + 2, 0, none⟩ (.int .i64 fv)).setCell ⟨w.heap.size + 2, 1, none⟩ (.int .i64 tag)).setCell ⟨w.heap.size + 2, 2, none⟩ (.slice pu ts.length cu) := ⟨_, rfl⟩
                  rw [← hW] at B3 T3 L3 N3 ⊢
                  clear hW r0 r1 r2 z0 z1 z2; have r0 : W.cell? ⟨w.heap.size + 2, 0, none⟩ = some (.int .i64 fv) := B3.cell 0
                  have r1 : W.cell? ⟨w.heap.size + 2, 1, none⟩ = some (.int .i64 tag) := B3.cell 1
                  have r2 : W.cell? ⟨w.heap.size + 2, 2, none⟩ = some (.slice pu ts.length cu) := B3.cell 2
                  refine bodyPost_ret (v := .tuple #[.agg #[.int .i64 fv, .int .i64 tag, .slice pu ts.length cu], .slice pn ns.length cn, .int .i64 0]) (by simp [results, Tryz.results26, go_sem, r0, r1, r2]) rfl ?_
                  exact ⟨fv, tag, 0, pu, cu, ts, pn, cn, ns, rfl, by rw [HMV.out], T3, N3, L3⟩
end Go.Proofs.YtageielcdebjlaaGreatDoor
