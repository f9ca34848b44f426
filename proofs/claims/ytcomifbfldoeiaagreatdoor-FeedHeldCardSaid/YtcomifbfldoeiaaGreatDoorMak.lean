/- feed.Make: the feed of a timetable's versions. -/
import Derived.Test.YtcomifbfldoeiaaGreatDoorPk20
import Derived.Test.YtcomifbfldoeiaaGreatDoorAdv
import Derived.Test.YtcomifbfldoeiaaGreatDoorPk30
import Derived.Test.YtcomifbfldoeiaaGreatDoorPk12
import Derived.Test.YtcomifbfldoeiaaGreatDoorEscAll
namespace Go.Proofs.YtcomifbfldoeiaaGreatDoor
open Go.RowKit Go.Maps

set_option maxHeartbeats 16000000 in
set_option maxRecDepth 100000 in
theorem mak63 (g : Tt.Grd) (t : Tt.Trm) (ao : Option Addr) (c : Nat) (nm : ByteArray) (ls : List (List Ses)) (pl : Option Addr) (cl : Nat) (w : World) (hI : Ints w.heap.size w ao t.hols) (hn : t.hols.length ≤ 4611686018427387903) (hS : LstAt w.heap.size w pl ls) (hll : ls.length ≤ 4611686018427387903) (hTz : Tz w) (hP : Pow w) (h6 : 6 < w.heap.size) :
    Calls Tryz.prog 39 #[.agg #[.int .i64 g.days, .int .i64 g.slots, .int .i64 g.begin_, .int .i64 g.mins], .agg #[.int .i64 t.first, .int .i64 t.weeks, .slice ao t.hols.length c], .string nm, .slice pl ls.length cl] w fun e w' => MakR g t nm ls w.heap.size e w' ∧ Below w.heap.size w w' := by
  obtain ⟨G, hG⟩ : ∃ x, x = w.heap.size := ⟨_, rfl⟩
  obtain ⟨T, hT⟩ : ∃ x, x = w.heap.size + 1 := ⟨_, rfl⟩
  obtain ⟨R, hR⟩ : ∃ x, x = w.heap.size + 1 + 1 := ⟨_, rfl⟩
  obtain ⟨w0, hw0⟩ : ∃ x, x = ((w.alloc (.cells #[.int .i64 g.days, .int .i64 g.slots, .int .i64 g.begin_, .int .i64 g.mins] 91)).alloc (.cells #[.int .i64 t.first, .int .i64 t.weeks, .slice ao t.hols.length c] 94)).alloc (.cells #[.string ⟨#[]⟩, .int .i64 0, .slice none 0 0] 49) := ⟨_, rfl⟩
  have HL0 := Lib.hid (show Below w.heap.size w w0 from by rw [hw0]; exact (below_box w _).trans (((below_box _ _).mono (by simp)).trans ((below_box _ _).mono (by simp; omega))))
  have HG0 := Lib.hid (show Blk G #[.int .i64 g.days, .int .i64 g.slots, .int .i64 g.begin_, .int .i64 g.mins] 91 w0 from by rw [hw0, hG]; exact ((Blk.new w _ _).alloc _).alloc _)
  have HT0 := Lib.hid (show Blk T #[.int .i64 t.first, .int .i64 t.weeks, .slice ao t.hols.length c] 94 w0 from by rw [hw0, hT]; exact (Blk.new' _ _ _ (by simp)).alloc _)
  have HR0 := Lib.hid (show Blk R #[.string ⟨#[]⟩, .int .i64 0, .slice none 0 0] 49 w0 from by rw [hw0, hR]; exact Blk.new' _ _ _ (by simp))
  have HC1 := Lib.hid (fun X => grid124 g X)
  have HC2 := Lib.hid (show ∀ X, Below w.heap.size w X → Calls Tryz.prog 79 #[.agg #[.int .i64 t.first, .int .i64 t.weeks, .slice ao t.hols.length c]] X fun e w' => e = .returned (.int .i64 (Tt.trmV t)) ∧ Below X.heap.size X w' from fun X hX => trm125 t ao c w.heap.size X hX.size (hI.below hX) hn)
  unfold grdVal at HC1
  obtain ⟨e1, he1⟩ : ∃ e, e = Tt.gridV g := ⟨_, rfl⟩
  obtain ⟨e2, he2⟩ : ∃ e, e = Tt.trmV t := ⟨_, rfl⟩
  rw [← he1] at HC1
  rw [← he2] at HC2
  have HI := Lib.hid hI; have HS := Lib.hid hS; have HTz := Lib.hid hTz; have HP := Lib.hid hP; have HSix := Lib.hid h6; have hGW : G < w0.heap.size := HG0.out.lt
  have hTW : T < w0.heap.size := HT0.out.lt
  have hRW : R < w0.heap.size := HR0.out.lt
  have hRge : w.heap.size ≤ R := by omega
  have hGT : G < R := by omega
  have hTR : T < R := by omega
  have HE1 := Lib.hid he1; have HE2 := Lib.hid he2; clear hI hS hTz hP h6 he1 he2; go_enter Tryz.func39, Tryz.ntmps39
  go_upto_region 1 with (fail)
  rw [← hw0, ← hR, ← hT, ← hG]; clear hw0 hG hT hR; have x0 : w0.cell? ⟨G, 0, none⟩ = some (.int .i64 g.days) := HG0.out.cell 0
  have x1 : w0.cell? ⟨G, 1, none⟩ = some (.int .i64 g.slots) := HG0.out.cell 1
  have x2 : w0.cell? ⟨G, 2, none⟩ = some (.int .i64 g.begin_) := HG0.out.cell 2
  have x3 : w0.cell? ⟨G, 3, none⟩ = some (.int .i64 g.mins) := HG0.out.cell 3
  go_cut [19] from 20 to 27 (fun s wx => s = .bool (!(decide (e1 = 0) && decide (e2 = 0))) ∧ Hid (Blk G #[.int .i64 g.days, .int .i64 g.slots, .int .i64 g.begin_, .int .i64 g.mins] 91 wx) ∧ Hid (Blk T #[.int .i64 t.first, .int .i64 t.weeks, .slice ao t.hols.length c] 94 wx) ∧ Hid (Blk R #[.string ⟨#[]⟩, .int .i64 0, .slice none 0 0] 49 wx) ∧ Hid (Below w.heap.size w wx))
  case first =>
    by_cases h1 : e1 = 0
    · subst h1; go_wp2_with (first | (go_at_call 78; (with_reducible refine (HC1.out _).mono ?_); rintro e w1 ⟨rfl, h1⟩; have HB1 := Lib.hid h1; have HG1 := Lib.hid (HG0.out.below h1 HG0.out.lt); have HT1 := Lib.hid (HT0.out.below h1 HT0.out.lt); have HR1 := Lib.hid (HR0.out.below h1 HR0.out.lt); have HL1 := Lib.hid (HL0.out.trans (h1.mono HL0.out.size)); have y0 : w1.cell? ⟨T, 0, none⟩ = some (.int .i64 t.first) := HT1.out.cell 0; have y1 : w1.cell? ⟨T, 1, none⟩ = some (.int .i64 t.weeks) := HT1.out.cell 1; have y2 : w1.cell? ⟨T, 2, none⟩ = some (.slice ao t.hols.length c) := HT1.out.cell 2; clear h1) | (go_at_call 79; (with_reducible refine (HC2.out _ HL1.out).mono ?_); rintro e w2 ⟨rfl, h2⟩; have HR2 := Lib.hid (HR1.out.below h2 HR1.out.lt); have HG2 := Lib.hid (HG1.out.below h2 HG1.out.lt); have HT2 := Lib.hid (HT1.out.below h2 HT1.out.lt); have HL2 := Lib.hid (HL1.out.trans (h2.mono HL1.out.size)); clear h2))
      go_meet
      case rel => exact ⟨congrArg Value.bool (by by_cases h : e2 = 0 <;> simp [h]), HG2, HT2, HR2, HL2⟩
    · go_wp2_with (first | (go_at_call 78; (with_reducible refine (HC1.out _).mono ?_); rintro e w1 ⟨rfl, h1⟩; have HB1 := Lib.hid h1; have HG1 := Lib.hid (HG0.out.below h1 HG0.out.lt); have HT1 := Lib.hid (HT0.out.below h1 HT0.out.lt); have HR1 := Lib.hid (HR0.out.below h1 HR0.out.lt); have HL1 := Lib.hid (HL0.out.trans (h1.mono HL0.out.size)); have y0 : w1.cell? ⟨T, 0, none⟩ = some (.int .i64 t.first) := HT1.out.cell 0; have y1 : w1.cell? ⟨T, 1, none⟩ = some (.int .i64 t.weeks) := HT1.out.cell 1; have y2 : w1.cell? ⟨T, 2, none⟩ = some (.slice ao t.hols.length c) := HT1.out.cell 2; clear h1) | (go_at_call 79; (with_reducible refine (HC2.out _ HL1.out).mono ?_); rintro e w2 ⟨rfl, h2⟩; have HR2 := Lib.hid (HR1.out.below h2 HR1.out.lt); have HG2 := Lib.hid (HG1.out.below h2 HG1.out.lt); have HT2 := Lib.hid (HT1.out.below h2 HT1.out.lt); have HL2 := Lib.hid (HL1.out.trans (h2.mono HL1.out.size)); clear h2))
      go_meet
      case rel => exact ⟨congrArg Value.bool (by simp [h1]), HG1, HT1, HR1, HL1⟩
  case rest =>
    skip
    obtain ⟨rfl, HG, HT, HR, HL⟩ := hcut; clear HG0 HT0 HR0 HL0 HC1 HC2; have HCD := Lib.hid (fun W => code_any nm W)
    obtain ⟨cd, hcd⟩ : ∃ b, b = Tt.code nm.data.toList := ⟨_, rfl⟩
    rw [← hcd] at HCD
    have HCE := Lib.hid hcd; clear hcd; by_cases hb : e1 = 0 ∧ e2 = 0
    rotate_left
    · have hd : (!(decide (e1 = 0) && decide (e2 = 0))) = true := by
        by_cases h1 : e1 = 0
        · have h2 : ¬ e2 = 0 := fun h => hb ⟨h1, h⟩
          simp [h2]
        · simp [h1]
      rw [hd]
      obtain ⟨Y, hY, hBk, hE⟩ := fillB HR.out HL.out hRge [.string ⟨#[]⟩, .int .i64 0, .slice none 0 0] rfl
      have fr0 := HR.out.frozen 0; have fr1 := HR.out.frozen 1; have fr2 := HR.out.frozen 2; have q0 : wc.cell? ⟨R, 0, none⟩ = some (.string ⟨#[]⟩) := HR.out.cell 0
      have q1 : wc.cell? ⟨R, 1, none⟩ = some (.int .i64 0) := HR.out.cell 1
      have q2 : wc.cell? ⟨R, 2, none⟩ = some (.slice none 0 0) := HR.out.cell 2
      simp only [setAll, Nat.zero_add, Nat.reduceAdd] at hY
      go_wp2_with (fail)
      rw [← hY]; clear hY; have r0 := hBk.cell 0; have r1 := hBk.cell 1; have r2 := hBk.cell 2; simp only [List.getElem?_toArray, List.getElem?_cons_zero, List.getElem?_cons_succ] at r0 r1 r2
      exact bodyPost_ret (v := .tuple #[.agg #[.string ⟨#[]⟩, .int .i64 0, .slice none 0 0], .int .i64 1]) (by simp [results, Tryz.results39, go_sem, r0, r1, r2]) rfl ⟨makR_bad (makC_1 (by rw [← HE1.out, ← HE2.out]; by_cases h1 : e1 = 0; exact .inr (fun h => hb ⟨h1, h⟩); exact .inl h1)) (by decide), hE⟩
    obtain ⟨rfl, rfl⟩ := hb; have hd : (!(decide ((0 : Int) = 0) && decide ((0 : Int) = 0))) = false := rfl
    rw [hd]
    clear hd; cases cd
    · obtain ⟨Y, hY, hBk, hE⟩ := fillB HR.out HL.out hRge [.string ⟨#[]⟩, .int .i64 0, .slice none 0 0] rfl
      have fr0 := HR.out.frozen 0; have fr1 := HR.out.frozen 1; have fr2 := HR.out.frozen 2; have q0 : wc.cell? ⟨R, 0, none⟩ = some (.string ⟨#[]⟩) := HR.out.cell 0
      have q1 : wc.cell? ⟨R, 1, none⟩ = some (.int .i64 0) := HR.out.cell 1
      have q2 : wc.cell? ⟨R, 2, none⟩ = some (.slice none 0 0) := HR.out.cell 2
      simp only [setAll, Nat.zero_add, Nat.reduceAdd] at hY
      go_wp2_with (go_at_call 48; (with_reducible refine (HCD.out _).mono ?_); rintro e w3 ⟨rfl, hw3⟩; rw [hw3]; clear hw3 w3)
      rw [← hY]; clear hY; have r0 := hBk.cell 0; have r1 := hBk.cell 1; have r2 := hBk.cell 2; simp only [List.getElem?_toArray, List.getElem?_cons_zero, List.getElem?_cons_succ] at r0 r1 r2
      exact bodyPost_ret (v := .tuple #[.agg #[.string ⟨#[]⟩, .int .i64 0, .slice none 0 0], .int .i64 10]) (by simp [results, Tryz.results39, go_sem, r0, r1, r2]) rfl ⟨makR_bad (makC_10 HE1.out.symm HE2.out.symm HCE.out.symm) (by decide), hE⟩
    by_cases h64 : 64 < (ls.length : Int)
    · obtain ⟨Y, hY, hBk, hE⟩ := fillB HR.out HL.out hRge [.string ⟨#[]⟩, .int .i64 0, .slice none 0 0] rfl
      have fr0 := HR.out.frozen 0; have fr1 := HR.out.frozen 1; have fr2 := HR.out.frozen 2; have q0 : wc.cell? ⟨R, 0, none⟩ = some (.string ⟨#[]⟩) := HR.out.cell 0
      have q1 : wc.cell? ⟨R, 1, none⟩ = some (.int .i64 0) := HR.out.cell 1
      have q2 : wc.cell? ⟨R, 2, none⟩ = some (.slice none 0 0) := HR.out.cell 2
      simp only [setAll, Nat.zero_add, Nat.reduceAdd] at hY
      go_wp2_with (go_at_call 48; (with_reducible refine (HCD.out _).mono ?_); rintro e w3 ⟨rfl, hw3⟩; rw [hw3]; clear hw3 w3)
      rw [← hY]; clear hY; have r0 := hBk.cell 0; have r1 := hBk.cell 1; have r2 := hBk.cell 2; simp only [List.getElem?_toArray, List.getElem?_cons_zero, List.getElem?_cons_succ] at r0 r1 r2
      exact bodyPost_ret (v := .tuple #[.agg #[.string ⟨#[]⟩, .int .i64 0, .slice none 0 0], .int .i64 2]) (by simp [results, Tryz.results39, go_sem, r0, r1, r2]) rfl ⟨makR_bad (makC_2 HE1.out.symm HE2.out.symm HCE.out.symm h64) (by decide), hE⟩
    have HTZ := Lib.hid (HTz.out.below HSix.out HL.out)
    have HSC := Lib.hid (HS.out.below HL.out)
    have HN64 := Lib.hid h64; have hww : w.heap.size ≤ wc.heap.size := HL.out.size
    have h6c : 6 < wc.heap.size := Nat.lt_of_lt_of_le HSix.out HL.out.size
    have HSX := Lib.hid h6c; clear h6c; go_wp2_with (go_at_call 48; (with_reducible refine (HCD.out _).mono ?_); rintro e w3 ⟨rfl, hw3⟩; rw [hw3]; clear hw3 w3)
    clear h64; skip
    go_loopw [41] (fun iv wr => ∃ k : Nat, iv = .int .i64 k ∧ k ≤ ls.length ∧ Hid (chgsV t.weeks ls = chgsV t.weeks (ls.drop k)) ∧ Hid (Below wc.heap.size wc wr)) (fun iv _ => ls.length - (intOf iv).toNat)
    case atStart => exact ⟨0, rfl, Nat.zero_le _, Lib.hid rfl, Lib.hid (Below.refl _ _)⟩
    case round =>
      obtain ⟨k, rfl, hk, HK, HB⟩ := hrel; by_cases hlt : k < ls.length
      · have hki : (k : Int) < (ls.length : Int) := by omega
        have hk0 : (0 : Int) ≤ (k : Int) := by omega
        obtain ⟨l, hl⟩ : ∃ l, ls[k]? = some l := ⟨_, List.getElem?_eq_getElem hlt⟩
        obtain ⟨b, o, p, q, ha, hbl, hcell, hlc, hc4, hl1, hse⟩ := HSC.out.at_ hl
        subst ha; have hbc : b < wc.heap.size := by omega
        have x0 : wr.cell? ⟨b, o + k, none⟩ = some (.slice p l.length q) := (HB.out.cell (p := ⟨b, o + k, none⟩) hbc).trans hcell
        have y1 : wr.cell? ⟨T, 1, none⟩ = some (.int .i64 t.weeks) := (HB.out.cell (p := ⟨T, 1, none⟩) HT.out.lt).trans (HT.out.cell 1)
        have HC := Lib.hid (chg126 l t.weeks p q w.heap.size wr (by have := HB.out.size; omega) (hse.below (HB.out.mono hww)) hlc hc4 (HTZ.out.below HSX.out HB.out) (Nat.lt_of_lt_of_le HSX.out HB.out.size))
        have HST := Lib.hid (HK.out.trans (chgsV_step t.weeks ls k l hl))
        obtain ⟨cv, hcv⟩ : ∃ x, x = chgV l t.weeks := ⟨_, rfl⟩
        rw [← hcv] at HST HC
        clear hcv hse hlc hc4 hl1 hcell hl; by_cases hz : cv = 0
        · subst hz; go_wp2_with (go_at_call 80; (with_reducible refine (HC.out).mono ?_); rintro e w5 ⟨rfl, h5⟩; have HB5 := Lib.hid (HB.out.trans (h5.mono HB.out.size)); clear h5)
          go_roundw
          case rel => exact ⟨k + 1, by go_num, by omega, Lib.hid (HST.out.trans (if_neg (by simp))), HB5⟩
          case measure => simp [intOf]; omega
        · have HCV := Lib.hid (HST.out.trans (if_pos hz))
          go_wp2_with (go_at_call 80; (with_reducible refine (HC.out).mono ?_); rintro e w5 ⟨rfl, h5⟩; have HB5 := Lib.hid (HB.out.trans (h5.mono HB.out.size)); clear h5; have HR5 := Lib.hid (HR.out.below HB5.out HR.out.lt); have HL5 := Lib.hid (HL.out.trans (HB5.out.mono hww)); obtain ⟨Y, hY, hBk, hE⟩ := fillB HR5.out HL5.out hRge [.string ⟨#[]⟩, .int .i64 0, .slice none 0 0] rfl; have fr0 := HR5.out.frozen 0; have fr1 := HR5.out.frozen 1; have fr2 := HR5.out.frozen 2; have q0 : w5.cell? ⟨R, 0, none⟩ = some (.string ⟨#[]⟩) := HR5.out.cell 0; have q1 : w5.cell? ⟨R, 1, none⟩ = some (.int .i64 0) := HR5.out.cell 1; have q2 : w5.cell? ⟨R, 2, none⟩ = some (.slice none 0 0) := HR5.out.cell 2; simp only [setAll, Nat.zero_add, Nat.reduceAdd] at hY)
          rw [← hY]; clear hY; have r0 := hBk.cell 0; have r1 := hBk.cell 1; have r2 := hBk.cell 2; simp only [List.getElem?_toArray, List.getElem?_cons_zero, List.getElem?_cons_succ] at r0 r1 r2
          exact bodyPost_ret (v := .tuple #[.agg #[.string ⟨#[]⟩, .int .i64 0, .slice none 0 0], .int .i64 cv]) (by simp [results, Tryz.results39, go_sem, r0, r1, r2]) rfl ⟨makR_bad ((makC_c HE1.out.symm HE2.out.symm HCE.out.symm (by have := HN64.out; omega) (by rw [HCV.out]; exact hz)).trans HCV.out) (hz), hE⟩
      obtain rfl : k = ls.length := by omega
      have hki : ¬ (ls.length : Int) < (ls.length : Int) := by omega
      rw [List.drop_length] at HK
      have HCH := Lib.hid (show chgsV t.weeks ls = 0 from HK.out)
      clear HK hk hlt; obtain ⟨wA, hwA⟩ : ∃ q, q = wr := ⟨_, rfl⟩
      rw [← hwA] at HB ⊢
      clear hwA; have HGA := Lib.hid (HG.out.below HB.out HG.out.lt)
      have HTA := Lib.hid (HT.out.below HB.out HT.out.lt)
      have HRA := Lib.hid (HR.out.below HB.out HR.out.lt)
      have HLA := Lib.hid (HL.out.trans (HB.out.mono hww))
      have HSA := Lib.hid (HS.out.below HLA.out)
      have HIA := Lib.hid (HI.out.below HLA.out)
      have HPA := Lib.hid (HP.out.below HSix.out HLA.out)
      clear HG HT HR HL HB HTZ HSC HSX HTz HS HI HP hww; obtain ⟨M, hM⟩ : ∃ x, x = wA.heap.size := ⟨_, rfl⟩
      obtain ⟨w1, hw1⟩ : ∃ x, x = wA.alloc (.map #[] 0) := ⟨_, rfl⟩
      have HK1 := Lib.hid (show Below M wA w1 from by rw [hw1, hM]; exact below_box wA _)
      have HA1 := Lib.hid (show AdvS M w.heap.size w1 [] (makeE g t 1 (ls.take 0) []) from ⟨by rw [hw1, hM]; exact MapE.new wA, fun x hx => (by cases hx), List.Perm.refl _, List.Pairwise.nil⟩)
      have hGM : G < M := by rw [hM]; exact HGA.out.lt
      have hTM : T < M := by rw [hM]; exact HTA.out.lt
      have hRM : R < M := by rw [hM]; exact HRA.out.lt
      have hWM : w.heap.size ≤ M := by rw [hM]; exact HLA.out.size
      have h6M : 6 < M := Nat.lt_of_lt_of_le HSix.out hWM
      have hmm := @run_makeMap Tryz.prog
      go_upto_region 15 with (fail)
      rw [← hw1, ← hM]; have HMA := Lib.hid hM; clear hw1 hM hmm hki; go_wp2_with fail
      go_loopw [57] (fun iv wr => ∃ (i : Nat) (us : List Tri), iv = .int .i64 i ∧ i ≤ ls.length ∧ us.length ≤ 96 * i ∧ Hid (AdvS M w.heap.size wr us (makeE g t 1 (ls.take i) [])) ∧ Hid (Below M wA wr)) (fun iv _ => ls.length - (intOf iv).toNat)
      case atStart => exact ⟨0, [], rfl, Nat.zero_le _, Nat.zero_le _, HA1, HK1⟩
      case round =>
        clear HA1 HK1; obtain ⟨i, us, rfl, hi, hul, HA, HB⟩ := hrel; have hli : (ls.length : Int) ≤ 64 := by have := HN64.out; omega
        by_cases hlt : i < ls.length
        rotate_left
        · have hki : ¬ (i : Int) < (ls.length : Int) := by omega
          obtain rfl : i = ls.length := by omega
          rw [List.take_length] at HA
          clear hi hlt; obtain ⟨wB, hwB⟩ : ∃ q, q = wr := ⟨_, rfl⟩
          rw [← hwB] at HA HB ⊢
          clear hwB; have HRB := Lib.hid (HRA.out.below HB.out hRM)
          have HLB := Lib.hid (HLA.out.trans (HB.out.mono hWM))
          have HUL := Lib.hid (show us.length = (makeE g t 1 ls []).length from by rw [← HA.out.perm.length_eq, List.length_map])
          have hml := HA.out.map.len 3; by_cases h256 : 256 < (us.length : Int)
          · obtain ⟨Y, hY, hBk, hE⟩ := fillB HRB.out HLB.out hRge [.string ⟨#[]⟩, .int .i64 0, .slice none 0 0] rfl
            have fr0 := HRB.out.frozen 0; have fr1 := HRB.out.frozen 1; have fr2 := HRB.out.frozen 2; have q0 : wB.cell? ⟨R, 0, none⟩ = some (.string ⟨#[]⟩) := HRB.out.cell 0
            have q1 : wB.cell? ⟨R, 1, none⟩ = some (.int .i64 0) := HRB.out.cell 1
            have q2 : wB.cell? ⟨R, 2, none⟩ = some (.slice none 0 0) := HRB.out.cell 2
            simp only [setAll, Nat.zero_add, Nat.reduceAdd] at hY
            go_wp2_with (fail)
            rw [← hY]; clear hY; have r0 := hBk.cell 0; have r1 := hBk.cell 1; have r2 := hBk.cell 2; simp only [List.getElem?_toArray, List.getElem?_cons_zero, List.getElem?_cons_succ] at r0 r1 r2
            exact bodyPost_ret (v := .tuple #[.agg #[.string ⟨#[]⟩, .int .i64 0, .slice none 0 0], .int .i64 2]) (by simp [results, Tryz.results39, go_sem, r0, r1, r2]) rfl ⟨makR_bad (makC_n HE1.out.symm HE2.out.symm HCE.out.symm (by omega) HCH.out (by rw [← HUL.out]; exact h256)) (by decide), hE⟩
          have H256 := Lib.hid (show ¬ 256 < ((makeE g t 1 ls []).length : Int) from by rw [← HUL.out]; exact h256)
          obtain ⟨F, hF⟩ : ∃ x, x = wB.heap.size := ⟨_, rfl⟩
          obtain ⟨w2, hw2⟩ : ∃ x, x = wB.alloc (.cells #[.string nm, .int .i64 (ls.length : Int), .slice none 0 0] 49) := ⟨_, rfl⟩
          have HKF := Lib.hid (show Below wB.heap.size wB w2 from by rw [hw2]; exact below_box wB _)
          have HF2 := Lib.hid (show Blk F #[.string nm, .int .i64 (ls.length : Int), .slice none 0 0] 49 w2 from by rw [hw2, hF]; exact Blk.new wB _ _)
          have HA2 := Lib.hid (HA.out.below HKF.out)
          have hMF : M < F := by rw [hF]; exact HA.out.map.lt
          obtain ⟨Q, hQ⟩ : ∃ x, x = w2.heap.size := ⟨_, rfl⟩
          have hFQ : F < Q := by rw [hQ]; exact HF2.out.lt
          go_upto_region 23 with (fail)
          rw [← hw2, ← hF]; have HFB := Lib.hid hF; clear hw2 hF hml hki h256; obtain ⟨ents, hown, hpe⟩ := HA2.out.map.own
          have HPE := Lib.hid hpe; clear hpe; go_wp2_with (at_range; refine wpList_range_own _ rfl _ 163 rfl 9 104 keyS Tryz.underlying163 Rev M us.length (.map ents) rfl hown ?_; intro wV hrg hgA hsA)
          rw [← hQ] at hrg ⊢
          have HRG := Lib.hid hrg; have HBV := Lib.hid (grown_below hgA)
          have HSV := Lib.hid (show Q + 1 ≤ wV.heap.size from by rw [hsA, hQ]; exact Nat.le_refl _)
          have HQW := Lib.hid hQ; clear hrg hgA hsA hown hQ; have HFV := Lib.hid (HF2.out.below HBV.out HF2.out.lt)
          have HBF := Lib.hid (show Below F wB wV from by rw [HFB.out]; exact HKF.out.trans (HBV.out.mono HKF.out.size))
          go_loopw [18] (fun _ wr => ∃ (left : Lit → Bool) (cnt : Nat) (rs dn : List Tri) (fv : Value), Hid (wr.ranges Tryz.prog 9 Rev M Q us.length (.map ents) left cnt) ∧ Hid (LeftE left rs) ∧ Hid ((dn ++ rs).Perm us) ∧ Hid (Blk F #[.string nm, .int .i64 (ls.length : Int), fv] 49 wr) ∧ Hid (wr.ownsRow (Q + 1) 104 13 fv dn.length (tCells dn)) ∧ Hid (Below F wB wr) ∧ Q + 1 ≤ wr.heap.size) (fun _ wr => wr.rangeLeft M Q)
          case atStart => exact ⟨_, _, us, [], _, HRG, Lib.hid (LeftE.start HPE.out), Lib.hid (List.Perm.refl _), HFV, Lib.hid (World.ownsRow_nil _ _ _ _), HBF, HSV.out⟩
          case round =>
            clear HRG HFV HBF HSV; obtain ⟨left, cnt, rs, dn, fv, HRG, HLF, HPM, HF, HX, HBW, hRs⟩ := hrel; obtain ⟨pv, qv, hfv⟩ := ownsRow_len HX.out
            subst hfv; have hrg := HRG.out; have hFW : F < wr.heap.size := HF.out.lt
            have HRF := Lib.hid (show ∀ x ∈ us, RefT w.heap.size wr x from fun x hx => (HA.out.ref x hx).below (by rw [← HFB.out]; exact HBW.out))
            go_wp2_with (at_next; refine wpList_next_ranges _ rfl _ rfl 9 keyS Rev Value.string evT (fun _ _ h => (keyS_inv h).imp fun _ h => h.1) (fun _ _ h => (rev_inv h).1) M Q us.length (.map ents) left cnt rfl hrg ?_ ?_)
            clear hrg
            · intro _ hl0; have hr0 := HLF.out.done hl0
              subst hr0; rw [List.append_nil] at HPM
              have hdl : dn.length ≤ 1000000 := by have := HPM.out.length_eq; omega
              have HC := Lib.hid (sort128 (lo := w.heap.size) HX.out (fun x hx => HRF.out x (HPM.out.mem_iff.1 hx)) ((HPM.out.pairwise_iff (fun {_ _} hne => Ne.symm hne)).2 HA.out.map.one) hdl)
              have HRR := Lib.hid (HRB.out.below HBW.out (by omega))
              have HLL := Lib.hid (HLB.out.trans (HBW.out.mono (by omega)))
              have hlw : w.heap.size ≤ wr.heap.size := HLL.out.size
              have f0 : wr.cell? ⟨F, 0, none⟩ = some (.string nm) := HF.out.cell 0
              have f1 : wr.cell? ⟨F, 1, none⟩ = some (.int .i64 (ls.length : Int)) := HF.out.cell 1
              have f2 : wr.cell? ⟨F, 2, none⟩ = some (.slice pv dn.length qv) := HF.out.cell 2
              go_wp2_with (go_at_call 82; (with_reducible refine (HC.out).mono ?_); rintro e w7 ⟨rfl, h7a, h7⟩; obtain ⟨us7, hrow7, href7, hp7, ha7⟩ := h7a; have HF7 := Lib.hid (HF.out.grown HX.out h7 (by decide)); have HR7 := Lib.hid (HRR.out.grown HX.out h7 (by decide)); have HL7 := Lib.hid (below_grownBy HLL.out HX.out (by omega) hlw h7); have HRW7 := Lib.hid hrow7; have HRF7 := Lib.hid href7; have HP7 := Lib.hid hp7; have HA7 := Lib.hid ha7; clear hrow7 href7 hp7 ha7 h7; have g0 : w7.cell? ⟨F, 0, none⟩ = some (.string nm) := HF7.out.cell 0; have g1 : w7.cell? ⟨F, 1, none⟩ = some (.int .i64 (ls.length : Int)) := HF7.out.cell 1; have g2 : w7.cell? ⟨F, 2, none⟩ = some (.slice pv dn.length qv) := HF7.out.cell 2; obtain ⟨Y, hY, hBk, hE⟩ := fillB HR7.out HL7.out hRge [.string nm, .int .i64 (ls.length : Int), .slice pv dn.length qv] rfl; have hrY := row_setAll (by decide) [.string nm, .int .i64 (ls.length : Int), .slice pv dn.length qv] 0 w7 _ HRW7.out HR7.out; have hfY : ∀ x ∈ us7, RefT w.heap.size (setAll w7 R 0 [.string nm, .int .i64 (ls.length : Int), .slice pv dn.length qv]) x := fun x hx => ⟨(HRF7.out x hx).1, row_setAll (by decide) _ 0 w7 _ (HRF7.out x hx).2.1 HR7.out, row_setAll (by decide) _ 0 w7 _ (HRF7.out x hx).2.2 HR7.out⟩; rw [← hY] at hrY hfY; have HRY := Lib.hid hrY; have HFY := Lib.hid hfY; clear hrY hfY; have fr0 := HR7.out.frozen 0; have fr1 := HR7.out.frozen 1; have fr2 := HR7.out.frozen 2; have q0 : w7.cell? ⟨R, 0, none⟩ = some (.string ⟨#[]⟩) := HR7.out.cell 0; have q1 : w7.cell? ⟨R, 1, none⟩ = some (.int .i64 0) := HR7.out.cell 1; have q2 : w7.cell? ⟨R, 2, none⟩ = some (.slice none 0 0) := HR7.out.cell 2; simp only [setAll, Nat.zero_add, Nat.reduceAdd] at hY)
              rw [← hY]; clear hY; have r0 := hBk.cell 0; have r1 := hBk.cell 1; have r2 := hBk.cell 2; simp only [List.getElem?_toArray, List.getElem?_cons_zero, List.getElem?_cons_succ] at r0 r1 r2
              have hC0 := makC_0 HE1.out.symm HE2.out.symm HCE.out.symm (show ¬ 64 < (ls.length : Int) by omega) HCH.out (show ¬ 256 < ((makeE g t 1 ls []).length : Int) by have := H256.out; omega)
              have hes : us7.map (·.1) = makeE g t 1 ls [] := AscU.same HA7.out (AscU_makeE g t ls 1 [] List.Pairwise.nil) ((HP7.out.trans HPM.out).map _ |>.trans HA.out.perm)
              have hrT : RowT w.heap.size Y (.slice pv dn.length qv) us7 := ⟨ownsRow_mono HRY.out (by omega), HFY.out⟩
              exact bodyPost_ret (v := .tuple #[.agg #[.string nm, .int .i64 (ls.length : Int), .slice pv dn.length qv], .int .i64 0]) (by simp [results, Tryz.results39, go_sem, r0, r1, r2]) rfl ⟨makR_ok hC0 hrT hes, hE⟩
            · intro x ce cv cv2 kl y1 y2 w3 cnt2 hkey hlk hRv hat hrg2 hlt2 hgr2 hsz2 hen; obtain ⟨q, hq, hqk⟩ := HLF.out.no kl hlk
              obtain ⟨x2, hx2, hkx⟩ := keyS_inv hkey
              have hxq : x = q.1.uid := by
                have e1 : x = x2 := by injection hx2
                rw [e1]; exact keyL_inj (hkx.symm.trans hqk)
              have hqu : q ∈ us := HPM.out.mem_iff.1 (List.mem_append_right dn hq)
              have hcv : evT (ce, cv, cv2) = evT q := by
                have h1 := hat (.lit (.bool false))
                rw [hqk, at_yes HA.out.map.one HPE.out hqu] at h1
                have h2 := (rev_inv hRv).2
                simp only [Prod.mk.injEq] at h2
                rw [h2.1] at h1
                injection h1 with h1
                exact h1.symm
              subst hxq; rw [hcv] at hen ⊢
              rw [hqk] at hrg2
              obtain ⟨p, p2, cc, cc2, hqf⟩ := (HA.out.ref q hqu).form
              have hqe : evT q = .agg #[.string q.1.uid, .int .i64 q.1.seq, .bool q.1.canc, .int .i64 q.1.days.first, .int .i64 q.1.days.last, .int .i64 q.1.days.every, .int .i64 q.1.days.wd, .slice p q.1.days.ex.length cc, .slice p2 q.1.days.xt.length cc2, .int .i64 q.1.start, .int .i64 q.1.mins, .string q.1.summ, .string q.1.loc] := by rw [hqf]; rfl
              rw [hqe] at hen ⊢
              have HQF := Lib.hid hqf; have HQ := Lib.hid hq; have HQU := Lib.hid hqu; have HRG2 := Lib.hid hrg2; have HMEAS := Lib.hid (show w3.rangeLeft M Q < wr.rangeLeft M Q from by rw [hrg2.left_eq, HRG.out.left_eq]; exact hlt2)
              have HBS := Lib.hid (show Below Q wr w3 from stepped_below hgr2 (Nat.le_refl _) (by omega))
              have HX2 := Lib.hid (show w3.ownsRow (Q + 1) 104 13 (.slice pv dn.length qv) dn.length (tCells dn) from World.ownsRow.kept HX.out hgr2 (by
                cases hv : (.slice pv dn.length qv : Value).ownBlock with
                | none => exact .inl rfl
                | some z => exact .inr (by have := (World.ownsRow.lt HX.out z hv).1; intro e; have : z = Q := by simpa using e
                                           omega)))
              have HF3 := Lib.hid (HF.out.below HBS.out (by omega))
              have HBW3 := Lib.hid (HBW.out.trans (HBS.out.mono (by omega)))
              have hRs3 : Q + 1 ≤ w3.heap.size := by rw [hsz2]; exact hRs
              clear hcv hqe hqf hat hRv hkey hlk hqk hx2 hkx hrg2 hlt2 hgr2 hsz2 hq HX HF HRF HBW hRs HRG HBS; obtain ⟨ex, hex⟩ : ∃ e, e = q.1 := ⟨_, rfl⟩
              rw [← hex] at hen ⊢ HQF
              have HEX := Lib.hid hex; clear hex; obtain ⟨X, hXX⟩ : ∃ z, z = w3.heap.size := ⟨_, rfl⟩
              obtain ⟨w4, hw4⟩ : ∃ z, z = w3.alloc (.cells #[.string ex.uid, .int .i64 ex.seq, .bool ex.canc, .int .i64 ex.days.first, .int .i64 ex.days.last, .int .i64 ex.days.every, .int .i64 ex.days.wd, .slice p ex.days.ex.length cc, .slice p2 ex.days.xt.length cc2, .int .i64 ex.start, .int .i64 ex.mins, .string ex.summ, .string ex.loc] 104) := ⟨_, rfl⟩
              have HK4 := Lib.hid (show Below w3.heap.size w3 w4 from by rw [hw4]; exact below_box w3 _)
              have HX4 := Lib.hid (show Blk X #[.string ex.uid, .int .i64 ex.seq, .bool ex.canc, .int .i64 ex.days.first, .int .i64 ex.days.last, .int .i64 ex.days.every, .int .i64 ex.days.wd, .slice p ex.days.ex.length cc, .slice p2 ex.days.xt.length cc2, .int .i64 ex.start, .int .i64 ex.mins, .string ex.summ, .string ex.loc] 104 w4 from by rw [hw4, hXX]; exact Blk.new w3 _ _)
              have HRG4 := Lib.hid (show w4.ranges Tryz.prog 9 Rev M Q us.length (.map ents) _ cnt2 from by rw [hw4]; exact HRG2.out.alloc _)
              have HRW4 := Lib.hid (row_made HX2.out HK4.out)
              have HBW4 := Lib.hid (HBW3.out.trans (HK4.out.mono (by omega)))
              have HF4 := Lib.hid (HF3.out.below HK4.out HF3.out.lt)
              have hRs4 : Q + 1 ≤ w4.heap.size := Nat.le_trans hRs3 HK4.out.size
              go_upto_region 26 with (fail)
              rw [← hw4, ← hXX]; clear hw4 hXX HK4 HX2 HBW3 HF3 hRs3 hen; have HLF4 := Lib.hid (HLF.out.step q)
              have HPM4 := Lib.hid (show ((dn ++ [q]) ++ rs.filter (fun u => !decide (u.1.uid = q.1.uid))).Perm us from by
                rw [List.append_assoc]
                exact (List.Perm.append_left dn (split_one (uids_apart HA.out.map.one HPM.out) HQ.out).symm).trans HPM.out)
              have HMS4 := Lib.hid (show w4.rangeLeft M Q < wr.rangeLeft M Q from by rw [HRG4.out.left_eq, ← HRG2.out.left_eq]; exact HMEAS.out)
              have hdl : dn.length ≤ 1000000 := by have := HPM.out.length_eq; rw [List.length_append] at this; omega
              obtain ⟨i0, hi0, hz0, hz1, hz2⟩ := info_parts infoEv
              have f0 : w4.cell? ⟨F, 0, none⟩ = some (.string nm) := HF4.out.cell 0
              have f1 : w4.cell? ⟨F, 1, none⟩ = some (.int .i64 (ls.length : Int)) := HF4.out.cell 1
              have f2 : w4.cell? ⟨F, 2, none⟩ = some (.slice pv dn.length qv) := HF4.out.cell 2
              have ke0 : w4.cell? ⟨X, 0, none⟩ = some (.string ex.uid) := HX4.out.cell 0
              have ke1 : w4.cell? ⟨X, 1, none⟩ = some (.int .i64 ex.seq) := HX4.out.cell 1
              have ke2 : w4.cell? ⟨X, 2, none⟩ = some (.bool ex.canc) := HX4.out.cell 2
              have ke3 : w4.cell? ⟨X, 3, none⟩ = some (.int .i64 ex.days.first) := HX4.out.cell 3
              have ke4 : w4.cell? ⟨X, 4, none⟩ = some (.int .i64 ex.days.last) := HX4.out.cell 4
              have ke5 : w4.cell? ⟨X, 5, none⟩ = some (.int .i64 ex.days.every) := HX4.out.cell 5
              have ke6 : w4.cell? ⟨X, 6, none⟩ = some (.int .i64 ex.days.wd) := HX4.out.cell 6
              have ke7 : w4.cell? ⟨X, 7, none⟩ = some (.slice p ex.days.ex.length cc) := HX4.out.cell 7
              have ke8 : w4.cell? ⟨X, 8, none⟩ = some (.slice p2 ex.days.xt.length cc2) := HX4.out.cell 8
              have ke9 : w4.cell? ⟨X, 9, none⟩ = some (.int .i64 ex.start) := HX4.out.cell 9
              have ke10 : w4.cell? ⟨X, 10, none⟩ = some (.int .i64 ex.mins) := HX4.out.cell 10
              have ke11 : w4.cell? ⟨X, 11, none⟩ = some (.string ex.summ) := HX4.out.cell 11
              have ke12 : w4.cell? ⟨X, 12, none⟩ = some (.string ex.loc) := HX4.out.cell 12
              have fr2 := HF4.out.frozen 2; have hX4 := HX4.out.lt; have hF4 := HF4.out.lt; go_wp2_with (at_builtin; refine wpList_append_own_at _ rfl (.tmp 85) (.tmp 87) 47 rfl (Q + 1) 104 i0 _ 13 160 Tryz.underlying47 hi0 hz0 hz1 hz2 rfl (by decide) _ _ _ rfl (World.ownsRow.alloc HRW4.out _) ⟨w4.heap.size, 0, none⟩ 1 1 (evCells ex (.slice p ex.days.ex.length cc) (.slice p2 ex.days.xt.length cc2)).toList rfl rfl (blk_cells (Blk.new w4 _ _)) (evCells_one _ _ _ _ _ _ _) (by unfold maxLen; omega) (by omega) (by simp; omega) ?_)
              intro v' x8 hown8 hgrow _ hat8; obtain ⟨p8, q8, hv8⟩ := ownsRow_len hown8
              subst hv8; have HFX := Lib.hid ((HF4.out.alloc _).grown (World.ownsRow.alloc HRW4.out _) hgrow (by decide))
              have HRG8 := Lib.hid ((HRG4.out.alloc _).kept hgrow (by intro e; have h1 := (World.ownsRow.lt HRW4.out _ e.symm).1; omega) (by intro e; have h1 := (World.ownsRow.lt HRW4.out _ e.symm).1; omega))
              have HBW8 := Lib.hid (below_grownBy (HBW4.out.trans ((below_box w4 _).mono (by omega))) (World.ownsRow.alloc HRW4.out _) (show F ≤ Q + 1 by omega) (by simp; omega) hgrow)
              have hRs8 : Q + 1 ≤ x8.heap.size := by have := hgrow.size; simp at this; omega
              have HWN := Lib.hid (show x8.ownsRow (Q + 1) 104 13 (.slice p8 (dn.length + 1) q8) (dn.length + 1) (tCells (dn ++ [q])) from by rw [tCells_snoc, HQF.out]; exact hown8)
              clear hgrow hown8 hat8 f0 f1 f2 ke0 ke1 ke2 ke3 ke4 ke5 ke6 ke7 ke8 ke9 ke10 ke11 ke12 fr2; have e2 : x8.cell? ⟨F, 2, none⟩ = some (.slice pv dn.length qv) := HFX.out.cell 2
              have z2 := HFX.out.frozen 2; have HF9 := Lib.hid (HFX.out.set 2 (.slice p8 (dn.length + 1) q8))
              have HW9 := Lib.hid (show (x8.setCell ⟨F, 2, none⟩ (.slice p8 (dn.length + 1) q8)).ownsRow (Q + 1) 104 13 (.slice p8 (dn.length + 1) q8) (dn ++ [q]).length (tCells (dn ++ [q])) from by rw [List.length_append]; exact row_set HWN.out HFX.out (by decide) 2 _)
              have hsg : x8.grownBy (x8.setCell ⟨F, 2, none⟩ (.slice p8 (dn.length + 1) q8)) (some F) := ⟨rfl, rfl, rfl, by simp, fun k hk hne => Below.heap_setCell _ _ _ _ (fun e => hne (by rw [e]))⟩
              have HRG9 := Lib.hid (HRG8.out.kept hsg (by intro e; have := Option.some.inj e; omega) (by intro e; have := Option.some.inj e; omega))
              have HBW9 := Lib.hid (HBW8.out.setCell (show F ≤ (⟨F, 2, none⟩ : Addr).block from Nat.le_refl F) (.slice p8 (dn.length + 1) q8))
              have hRs9 : Q + 1 ≤ (x8.setCell ⟨F, 2, none⟩ (.slice p8 (dn.length + 1) q8)).heap.size := by simp; omega
              have HMS9 := Lib.hid (show (x8.setCell ⟨F, 2, none⟩ (.slice p8 (dn.length + 1) q8)).rangeLeft M Q < wr.rangeLeft M Q from by rw [HRG9.out.left_eq, ← HRG4.out.left_eq]; exact HMS4.out)
              clear hsg; obtain ⟨x9, hx9⟩ : ∃ z, z = x8.setCell ⟨F, 2, none⟩ (.slice p8 (dn.length + 1) q8) := ⟨_, rfl⟩
              rw [← hx9] at HF9 HW9 HRG9 HBW9 hRs9 HMS9
              go_wp2_with fail
              rw [← hx9]; go_roundw
              case rel => exact ⟨_, cnt2, _, dn ++ [q], _, HRG9, HLF4, HPM4, HF9, HW9, HBW9, hRs9⟩
              case measure => exact HMS9.out
        have hki : (i : Int) < (ls.length : Int) := by omega
        have hk0 : (0 : Int) ≤ (i : Int) := by omega
        obtain ⟨l, hl⟩ : ∃ l, ls[i]? = some l := ⟨_, List.getElem?_eq_getElem hlt⟩
        obtain ⟨b, o, p, q, ha, hbl, hcell, hlc, hc4, hl1, hse⟩ := HSA.out.at_ hl
        subst ha; have hl96 : l.length ≤ 96 := chgV_len (chgsV_each _ _ HCH.out l (List.mem_of_getElem? hl))
        have hbM : b < M := by omega
        have x0 : wr.cell? ⟨b, o + i, none⟩ = some (.slice p l.length q) := (HB.out.cell (p := ⟨b, o + i, none⟩) hbM).trans hcell
        have HGR := Lib.hid (HGA.out.below HB.out hGM)
        have HTR := Lib.hid (HTA.out.below HB.out hTM)
        have g0 : wr.cell? ⟨G, 0, none⟩ = some (.int .i64 g.days) := HGR.out.cell 0
        have g1 : wr.cell? ⟨G, 1, none⟩ = some (.int .i64 g.slots) := HGR.out.cell 1
        have g2 : wr.cell? ⟨G, 2, none⟩ = some (.int .i64 g.begin_) := HGR.out.cell 2
        have g3 : wr.cell? ⟨G, 3, none⟩ = some (.int .i64 g.mins) := HGR.out.cell 3
        have t0 : wr.cell? ⟨T, 0, none⟩ = some (.int .i64 t.first) := HTR.out.cell 0
        have t1 : wr.cell? ⟨T, 1, none⟩ = some (.int .i64 t.weeks) := HTR.out.cell 1
        have t2 : wr.cell? ⟨T, 2, none⟩ = some (.slice ao t.hols.length c) := HTR.out.cell 2
        have HC := Lib.hid (adv127 g t ao c l p q ((i : Int) + 1) M w.heap.size (makeE g t 1 (ls.take i) []) us wr ((HIA.out.below (HB.out.mono hWM)).mono hWM) hn ((hse.below (HB.out.mono hWM)).mono hWM) (by omega) (Nat.le_trans hWM (Nat.le_of_lt HA.out.map.lt)) (by omega) HA.out (HPA.out.below h6M HB.out) h6M)
        rw [← makeE_take g t ls i l hl] at HC
        clear hse hlc hc4 hcell hl; go_wp2_with (go_at_call 81; (with_reducible refine (HC.out).mono ?_); rintro e w5 ⟨rfl, h5a, h5⟩; obtain ⟨us2, h5b, h5c⟩ := h5a; have HA5 := Lib.hid h5b; have HL5 := Lib.hid h5c; have HB5 := Lib.hid (HB.out.trans h5); clear h5 h5b h5c)
        go_roundw
        case rel => exact ⟨i + 1, us2, by go_num, by omega, by have := HL5.out; omega, HA5, HB5⟩
        case measure => simp [intOf]; omega
end Go.Proofs.YtcomifbfldoeiaaGreatDoor
