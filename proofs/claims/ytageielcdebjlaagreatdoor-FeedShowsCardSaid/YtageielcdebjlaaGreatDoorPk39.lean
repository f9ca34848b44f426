/- The local time at an instant, in a valid zone (zone.at, zone.Offset, zone.Local): their contracts. FeedShows: the walk of the law. -/
import Derived.Test.YtageielcdebjlaaGreatDoorPk24
import Derived.Test.YtageielcdebjlaaGreatDoorPk37
import Derived.Test.YtageielcdebjlaaGreatDoorGenT2
import Derived.Test.YtageielcdebjlaaGreatDoorGenZV
import Derived.Test.YtageielcdebjlaaGreatDoorEvO
import Derived.Test.YtageielcdebjlaaGreatDoorPk31
namespace Tt
theorem asc_suffix : ∀ (sh : List (Int × Int)) (m : Int) (k : Nat) (x : Int × Int), Asc m sh → sh[k]? = some x → Asc x.1 (sh.drop k)
  | [], _, _, _, _, h => by simp at h
  | y :: r, _, 0, x, ⟨_, h2⟩, h => by simp at h; subst h; exact ⟨Int.le_refl _, h2⟩
  | y :: r, _, k + 1, x, ⟨_, _, _, _, _, h6⟩, h => asc_suffix r _ k x h6 (by simpa using h)
end Tt
namespace Go.Proofs.YtageielcdebjlaaGreatDoor
open Go.RowKit

set_option maxHeartbeats 4000000 in
set_option maxRecDepth 100000 in
theorem at224 (n : ByteArray) (v : Int) (sh : List (Int × Int)) (ao : Option Addr) (c : Nat) (B : Nat) (t : Int) (w : World) (hB : B ≤ w.heap.size) (hE : Shs B w ao sh) (hn : sh.length ≤ 4611686018427387903) (has : Tt.Asc 0 sh) :
    Calls Tryz.prog 224 #[.agg #[.string n, .int .i64 v, .slice ao sh.length c], .int .i64 t] w fun e w' => e = .returned (.int .i64 (Tt.offAt v sh t)) ∧ Below w.heap.size w w' := by
  have HE := Lib.hid hE; have HAS := Lib.hid has; clear hE has; have F0 : ZoneB w.heap.size n v (.slice ao sh.length c) (w.alloc (.cells #[.string n, .int .i64 v, .slice ao sh.length c] 50)) := heap_alloc_new w _
  have HF0 := Lib.hid F0; clear F0; go_enter Tryz.func224, Tryz.ntmps224
  obtain ⟨f0, f1, f2⟩ := HF0.out.c
  go_wp2_with fail
  clear f0 f1 f2; go_loopw [5, 13] (fun ov iv wr => ∃ (k : Nat) (of : Int), ov = .int .i64 of ∧ iv = .int .i64 k ∧ k ≤ sh.length ∧ Hid (Below w.heap.size w wr) ∧ Hid (Tt.offAt v sh t = Tt.offAt of (sh.drop k) t)) (fun _ iv _ => sh.length - (intOf iv).toNat)
  case atStart => exact ⟨0, v, rfl, rfl, Nat.zero_le _, Lib.hid (below_box _ _), Lib.hid rfl⟩
  case round =>
    obtain ⟨k, of, rfl, rfl, hk, hbe, HK⟩ := hrel; by_cases hlt : k < sh.length
    · obtain ⟨x, hx⟩ : ∃ x, sh[k]? = some x := ⟨_, List.getElem?_eq_getElem hlt⟩
      obtain ⟨b, o, ha, hb, hev⟩ := HE.out.form (by omega)
      subst ha; obtain ⟨a0, a1⟩ := hev k x hx
      have c0 := (hbe.out.cell (p := ⟨b, o + k * 2, none⟩) (by simp; omega)).trans a0
      have c1 := (hbe.out.cell (p := ⟨b, o + k * 2 + 1, none⟩) (by simp; omega)).trans a1
      have hki : (k : Int) < (sh.length : Int) := by omega
      have HSUF := Lib.hid (Tt.asc_suffix sh 0 k x HAS.out hx)
      have HDR := Lib.hid (show sh.drop k = x :: sh.drop (k + 1) by
        obtain ⟨g1, g2⟩ := List.getElem?_eq_some_iff.1 hx
        rw [List.drop_eq_getElem_cons g1, g2])
      clear a0 a1 hev hx; obtain ⟨at1, of1⟩ := x; simp only at c0 c1
      by_cases hc : t < at1
      · have HR := Lib.hid (show Tt.offAt v sh t = of from HK.out.trans (Tt.offAt_before _ at1 of t HSUF.out hc))
        go_wp2_with fail
        go_ret; exact ⟨ret_int HR.out.symm, below_then hbe.out (below_box _ _)⟩
      · have HR := Lib.hid (show Tt.offAt v sh t = Tt.offAt of1 (sh.drop (k + 1)) t by
          rw [HK.out, HDR.out]
          show Tt.offAt (if at1 ≤ t then of1 else of) _ t = _
          rw [if_pos (by omega)])
        go_wp2_with fail
        go_roundw
        case rel => exact ⟨k + 1, of1, rfl, by go_num, by omega, Lib.hid (below_then hbe.out (below_box _ _)), HR⟩
        case measure => simp [intOf]; omega
    · have hki : ¬ (k : Int) < (sh.length : Int) := by omega
      have HR := Lib.hid (show Tt.offAt v sh t = of by rw [HK.out, List.drop_eq_nil_of_le (by omega)]; rfl)
      go_wp2_with fail
      go_ret; exact ⟨ret_int HR.out.symm, hbe.out⟩

set_option maxHeartbeats 4000000 in
set_option maxRecDepth 100000 in
theorem offset150 (n : ByteArray) (v : Int) (sh : List (Int × Int)) (ao : Option Addr) (c : Nat) (B : Nat) (t : Int) (w : World) (hB : B ≤ w.heap.size) (hE : Shs B w ao sh) (hn : sh.length ≤ 4611686018427387903) (hv : Tt.zoneV (Tt.code n.data.toList) v sh = 0) (h0 : 0 ≤ t) (h1 : t < 52596000) :
    Calls Tryz.prog 150 #[.agg #[.string n, .int .i64 v, .slice ao sh.length c], .int .i64 t] w fun e w' => e = .returned (.tuple #[.int .i64 (Tt.offAt v sh t), .int .i64 0]) ∧ Below w.heap.size w w' := by
  have F0 : ZoneB w.heap.size n v (.slice ao sh.length c) (w.alloc (.cells #[.string n, .int .i64 v, .slice ao sh.length c] 50)) := heap_alloc_new w _
  have HF0 := Lib.hid F0; have HV := Lib.hid (zone59 n v sh ao c B (w.alloc (.cells #[.string n, .int .i64 v, .slice ao sh.length c] 50)) (by simp; omega) (hE.below ((below_box w _).mono hB)) hn)
  have HAS := Lib.hid (Tt.zoneV_zero _ _ _ hv).2.2.2.2.2
  have HI := Lib.hid ((Tt.instB_iff t).2 ⟨h0, h1⟩)
  have HVV := Lib.hid hv; have HE := Lib.hid hE; clear hE F0 hv; go_enter Tryz.func150, Tryz.ntmps150
  obtain ⟨f0, f1, f2⟩ := HF0.out.c
  go_wp2_with fail
  refine HV.out.mono ?_
  rintro e w0 ⟨rfl, hb0⟩; rw [HVV.out]
  have HB0 := Lib.hid (below_then (below_box w _) hb0)
  have HF := Lib.hid (HF0.out.block (hb0.block _ HF0.out.lt))
  clear HV hb0 f0 f1 f2; obtain ⟨f0, f1, f2⟩ := HF.out.c
  go_wp2_with fail
  refine (inst122 t w0).mono ?_
  rintro e w1 ⟨rfl, rfl⟩; rw [HI.out]
  go_wp2_with fail
  refine (at224 n v sh ao c B t w1 (by have := HB0.out.size; omega) (HE.out.below (HB0.out.mono hB)) hn HAS.out).mono ?_
  rintro e w2 ⟨rfl, hb2⟩; have HB2 := Lib.hid (below_then HB0.out hb2)
  clear hb2; go_wp2_with fail
  go_ret2
  exact ⟨rfl, HB2.out⟩

set_option maxHeartbeats 4000000 in
set_option maxRecDepth 100000 in
theorem local75 (n : ByteArray) (v : Int) (sh : List (Int × Int)) (ao : Option Addr) (c : Nat) (B : Nat) (t : Int) (w : World) (hB : B ≤ w.heap.size) (hE : Shs B w ao sh) (hn : sh.length ≤ 4611686018427387903) (hv : Tt.zoneV (Tt.code n.data.toList) v sh = 0) (h0 : 0 ≤ t) (h1 : t < 52596000) :
    Calls Tryz.prog 75 #[.agg #[.string n, .int .i64 v, .slice ao sh.length c], .int .i64 t] w fun e w' => e = .returned (.tuple #[.int .i64 (t + Tt.offAt v sh t), .int .i64 0]) ∧ Below w.heap.size w w' := by
  have F0 : ZoneB w.heap.size n v (.slice ao sh.length c) (w.alloc (.cells #[.string n, .int .i64 v, .slice ao sh.length c] 50)) := heap_alloc_new w _
  have HF0 := Lib.hid F0; have HV := Lib.hid (offset150 n v sh ao c B t (w.alloc (.cells #[.string n, .int .i64 v, .slice ao sh.length c] 50)) (by simp; omega) (hE.below ((below_box w _).mono hB)) hn hv h0 h1)
  obtain ⟨-, o1, o2, -, -, has⟩ := Tt.zoneV_zero _ _ _ hv
  have hne := Tt.offAt_near sh 0 v t has o1 o2; obtain ⟨q, hq⟩ : ∃ q, q = Tt.offAt v sh t := ⟨_, rfl⟩
  rw [← hq] at HV hne ⊢
  clear F0 hv hE has hq; go_enter Tryz.func75, Tryz.ntmps75
  obtain ⟨f0, f1, f2⟩ := HF0.out.c
  go_wp2_with fail
  refine HV.out.mono ?_
  rintro e w0 ⟨rfl, hb0⟩; have HB0 := Lib.hid (below_then (below_box w _) hb0)
  clear HV hb0 f0 f1 f2 HF0; go_wp2_with fail
  go_ret2
  exact ⟨rfl, HB0.out⟩
end Go.Proofs.YtageielcdebjlaaGreatDoor
namespace Go.Proofs.YtageielcdebjlaaGreatDoor
open Go.RowKit

/-- The session that the law makes. -/
def sesC (x : Tt.Tim) : Ses := ⟨⟨#[99]⟩, x, ⟨#[]⟩⟩
theorem sesC_parts {g : Tt.Grd} {t : Tt.Trm} {x : Tt.Tim} (hg : Tt.gridV g = 0) (ht : Tt.trmV t = 0) (hf : Tt.fitsV g t.weeks x = 0) (hd : Tt.daysK t x 20 ≠ []) : EvParts g t (sesC x) := ⟨hg, ht, rfl, rfl, hf, hd⟩
theorem sesC_none {g : Tt.Grd} {t : Tt.Trm} {x : Tt.Tim} (hd : Tt.daysK t x 20 = []) : evB g t (sesC x) = false := by
  cases h : evB g t (sesC x) with
  | false => rfl
  | true => exact absurd hd ((evB_iff _ _ _).1 h).hd
theorem RowI.ao {lo n c : Nat} {w : World} {ao : Option Addr} {xs : List Int} (h : RowI lo w (.slice ao n c) xs) : Ints w.heap.size w ao xs := by
  obtain ⟨a, c', hv, hi⟩ := h.ints
  have : a = ao := by injection hv with h1; exact h1.symm
  subst this; exact hi
theorem RowZ.ao {lo n c : Nat} {w : World} {ao : Option Addr} {xs : List (Int × Int)} (h : RowZ lo w (.slice ao n c) xs) : Shs w.heap.size w ao xs := by
  obtain ⟨a, c', hv, hi⟩ := h.shs
  have : a = ao := by injection hv with h1; exact h1.symm
  subst this; exact hi

set_option maxHeartbeats 16000000 in
set_option maxRecDepth 100000 in
theorem law13 (ao : Option Addr) (len cap : Nat) (w : World) (mx : Int) (hn : Nums w ao len) (hm : w.cell? ⟨0, 0, none⟩ = some (.int .i64 mx)) (hP : Pow w) (h6 : 6 < w.heap.size) : Calls Tryz.prog 13 #[.slice ao len cap] w fun e w' => e = .returned (.bool true) ∧ Below w.heap.size w w' := by
  have HN := Lib.hid hn; have HSix := Lib.hid h6; have HAW : Hid (∀ W, Below w.heap.size w W → Calls Tryz.prog 33 #[] W fun e w' => e = .returned (.bool true) ∧ Below W.heap.size W w') := Lib.hid (fun W hW => awake_any W mx ((hW.cell (p := ⟨0, 0, none⟩) (show 0 < w.heap.size by omega)).trans hm) (by have := hW.size; omega))
  have HPow : Hid (∀ W, Below w.heap.size w W → Pow W) := Lib.hid (fun W hW => hP.below h6 hW)
  clear hn hm hP h6; by_cases hlen : (len : Int) ≤ 400
  rotate_left
  · have hd1 : decide ((len : Int) ≤ 400) = false := decide_eq_false hlen
    go_enter Tryz.func13, Tryz.ntmps13
    go_wp2_with fail
    refine (light_any ao len cap w).mono ?_
    rintro e w1 ⟨rfl, hx⟩; rw [hx, hd1]
    clear hx w1; go_wp2_with fail
    refine (HAW.out _ (Below.refl w.heap.size w)).mono ?_
    rintro e we ⟨rfl, hb⟩; have HE := Lib.hid (((Below.refl w.heap.size w)).trans (hb.mono ((Below.refl w.heap.size w)).size))
    clear hb; go_wp2_with fail
    go_ret; exact ⟨rfl, HE.out⟩
  have hd1 : decide ((len : Int) ≤ 400) = true := decide_eq_true hlen
  go_enter Tryz.func13, Tryz.ntmps13
  go_wp2_with fail
  refine (light_any ao len cap w).mono ?_
  rintro e w1 ⟨rfl, hx⟩; rw [hx, hd1]
  clear hx w1; go_wp2_with fail
  refine (roll_any ao len cap w (by omega) HN.out).mono ?_
  rintro e w1 ⟨rfl, hd, hb, hsz⟩; obtain ⟨b, hbb⟩ : ∃ b, b = w.heap.size := ⟨_, rfl⟩
  rw [← hbb] at hd hsz ⊢
  have HL1 := Lib.hid hb; have HD1 := Lib.hid hd; have hwb : w.heap.size ≤ b := by omega
  clear hd hb hbb hd1 hlen; go_wp2_with fail
  refine (grid60v b w1 HD1.out).mono ?_
  rintro e w2 ⟨g, rfl, hgv, g1, g2, g3, g4, hs⟩; have HGV := Lib.hid hgv; have HL2 := Lib.hid (HL1.out.trans (hs.but.below hwb HL1.out.size))
  have HD2 := Lib.hid hs.dice
  have hb2 : b < w2.heap.size := hs.dice.lt
  clear hgv hs HD1; unfold grdVal
  go_wp2_with fail
  refine (term61v b w2 HD2.out).mono ?_
  rintro e w3 ⟨t, v, rfl, hv, hvl, t1, t2, t3, t4, htv, hs⟩; obtain ⟨pt, ct, hpv⟩ := RowI.slice hv
  subst hpv; have HTV := Lib.hid htv; have HV3 := Lib.hid hv; have HL3 := Lib.hid (HL2.out.trans (hs.but.below hwb HL2.out.size))
  have HD3 := Lib.hid hs.dice
  have hs23 : w2.heap.size ≤ w3.heap.size := hs.but.size
  clear htv hv hs HD2; unfold trmVal
  obtain ⟨G, hG⟩ : ∃ x, x = w3.heap.size := ⟨_, rfl⟩
  obtain ⟨T, hT⟩ : ∃ x, x = w3.heap.size + 1 := ⟨_, rfl⟩
  obtain ⟨w4, hw4⟩ : ∃ X, X = (w3.alloc (.cells #[.int .i64 g.days, .int .i64 g.slots, .int .i64 g.begin_, .int .i64 g.mins] 90)).alloc (.cells #[.int .i64 t.first, .int .i64 t.weeks, .slice pt t.hols.length ct] 93) := ⟨_, rfl⟩
  have HK4 := Lib.hid (show Below w3.heap.size w3 w4 from by rw [hw4]; exact (below_box w3 _).trans ((below_box _ _).mono (by simp)))
  have HG4 := Lib.hid (show Blk G #[.int .i64 g.days, .int .i64 g.slots, .int .i64 g.begin_, .int .i64 g.mins] 90 w4 from by rw [hw4, hG]; exact (Blk.new w3 _ _).alloc _)
  have HT4 := Lib.hid (show Blk T #[.int .i64 t.first, .int .i64 t.weeks, .slice pt t.hols.length ct] 93 w4 from by rw [hw4, hT]; exact Blk.new' _ _ _ (by simp))
  have HL4 := Lib.hid (HL3.out.trans (HK4.out.mono HL3.out.size))
  have HD4 := Lib.hid (HD3.out.kept HD3.out.lt HK4.out)
  have HV4 := Lib.hid (show RowI w2.heap.size w4 (.slice pt t.hols.length ct) t.hols from ownsRow_below HV3.out HK4.out)
  have hGb : G ≠ b := by have := HD3.out.lt; omega
  have hTb : T ≠ b := by have := HD3.out.lt; omega
  go_upto_region 5 with (fail)
  rw [← hw4, ← hT, ← hG]; clear hw4 hT hG HK4 HV3 HD3; have x0 : w4.cell? ⟨G, 0, none⟩ = some (.int .i64 g.days) := HG4.out.cell 0
  have x1 : w4.cell? ⟨G, 1, none⟩ = some (.int .i64 g.slots) := HG4.out.cell 1
  have x2 : w4.cell? ⟨G, 2, none⟩ = some (.int .i64 g.begin_) := HG4.out.cell 2
  have x3 : w4.cell? ⟨G, 3, none⟩ = some (.int .i64 g.mins) := HG4.out.cell 3
  have y0 : w4.cell? ⟨T, 0, none⟩ = some (.int .i64 t.first) := HT4.out.cell 0
  have y1 : w4.cell? ⟨T, 1, none⟩ = some (.int .i64 t.weeks) := HT4.out.cell 1
  have y2 : w4.cell? ⟨T, 2, none⟩ = some (.slice pt t.hols.length ct) := HT4.out.cell 2
  go_wp2_with fail
  clear x0 x1 x2 x3; clear y0 y1 y2; have HTM := Lib.hid (time72v b g t.weeks w4 HD4.out t3 t4 g1 g2 g3 g4)
  unfold grdVal at HTM
  refine HTM.out.mono ?_
  clear HTM; rintro e w5 ⟨x, rfl, hx, hs⟩; have HX := Lib.hid hx; have HL5 := Lib.hid (HL4.out.trans (hs.but.below hwb HL4.out.size))
  have HD5 := Lib.hid hs.dice
  have HG5 := Lib.hid (HG4.out.but hs.but hGb)
  have HT5 := Lib.hid (HT4.out.but hs.but hTb)
  have HV5 := Lib.hid (show RowI w2.heap.size w5 (.slice pt t.hols.length ct) t.hols from row_but HV4.out hb2 hs.but)
  clear hx hs HD4 HG4 HT4 HV4; unfold timVal
  obtain ⟨S, hS⟩ : ∃ x, x = w5.heap.size := ⟨_, rfl⟩
  obtain ⟨w6, hw6⟩ : ∃ X, X = w5.alloc (.cells #[.string ⟨#[99]⟩, .int .i64 x.weeks, .int .i64 x.day, .int .i64 x.start, .int .i64 x.len, .string ⟨#[]⟩] 107) := ⟨_, rfl⟩
  have HK6 := Lib.hid (show Below w5.heap.size w5 w6 from by rw [hw6]; exact below_box w5 _)
  have HS6 := Lib.hid (show Blk S #[.string ⟨#[99]⟩, .int .i64 x.weeks, .int .i64 x.day, .int .i64 x.start, .int .i64 x.len, .string ⟨#[]⟩] 107 w6 from by rw [hw6, hS]; exact Blk.new w5 _ _)
  have HG6 := Lib.hid (HG5.out.below HK6.out HG5.out.lt)
  have HT6 := Lib.hid (HT5.out.below HK6.out HT5.out.lt)
  have HL6 := Lib.hid (HL5.out.trans (HK6.out.mono HL5.out.size))
  have HD6 := Lib.hid (HD5.out.kept HD5.out.lt HK6.out)
  have HV6 := Lib.hid (show RowI w2.heap.size w6 (.slice pt t.hols.length ct) t.hols from ownsRow_below HV5.out HK6.out)
  have hSb : S ≠ b := by have := HD5.out.lt; omega
  go_upto_region 6 with (fail)
  rw [← hw6, ← hS]; clear hw6 hS HK6 HV5 HD5 HG5 HT5; go_wp2_with fail
  refine (zone30v b w6 HD6.out).mono ?_
  rintro e w7 ⟨zn, zv, pz, cz, sh, rfl, hzv, hzl, hE, hd, hbt⟩; have HZV := Lib.hid hzv; have hsh : sh.length ≤ 4611686018427387903 := by omega
  have HE7 := Lib.hid hE; have HL7 := Lib.hid (HL6.out.trans (hbt.below hwb HL6.out.size))
  have HG7 := Lib.hid (HG6.out.but hbt hGb)
  have HT7 := Lib.hid (HT6.out.but hbt hTb)
  have HS7 := Lib.hid (HS6.out.but hbt hSb)
  have HV7 := Lib.hid (show RowI w2.heap.size w7 (.slice pt t.hols.length ct) t.hols from row_but HV6.out hb2 hbt)
  clear hzv hE hd hbt HD6 HG6 HT6 HS6 HV6 hzl; obtain ⟨Z, hZ⟩ : ∃ x, x = w7.heap.size := ⟨_, rfl⟩
  obtain ⟨w8, hw8⟩ : ∃ X, X = w7.alloc (.cells #[.string zn, .int .i64 zv, .slice pz sh.length cz] 50) := ⟨_, rfl⟩
  have HK8 := Lib.hid (show Below w7.heap.size w7 w8 from by rw [hw8]; exact below_box w7 _)
  have HZ8 := Lib.hid (show Blk Z #[.string zn, .int .i64 zv, .slice pz sh.length cz] 50 w8 from by rw [hw8, hZ]; exact Blk.new w7 _ _)
  have HG8 := Lib.hid (HG7.out.below HK8.out HG7.out.lt)
  have HT8 := Lib.hid (HT7.out.below HK8.out HT7.out.lt)
  have HS8 := Lib.hid (HS7.out.below HK8.out HS7.out.lt)
  have HL8 := Lib.hid (HL7.out.trans (HK8.out.mono HL7.out.size))
  have HV8 := Lib.hid (show RowI w2.heap.size w8 (.slice pt t.hols.length ct) t.hols from ownsRow_below HV7.out HK8.out)
  have HI8 := Lib.hid HV8.out.ao
  have HE8 := Lib.hid (show RowZ w6.heap.size w8 (.slice pz sh.length cz) sh from ownsRow_below HE7.out HK8.out)
  have HJ8 := Lib.hid HE8.out.ao
  go_upto_region 7 with (fail)
  rw [← hw8, ← hZ]; clear hw8 hZ HK8 HV7 HE7 HV8 HE8 HG7 HT7 HS7 hb2 hs23 hGb hTb hSb; have HFT := Lib.hid (HX.out.fits HGV.out t3 (by omega))
  have htl : t.hols.length ≤ 4611686018427387903 := by omega
  have hx0 : 0 ≤ x.weeks := by have := HX.out.w0; omega
  have hx1 : x.weeks < 4611686018427387904 := by
    have h2 := HX.out.w1; have h3 : 2 ^ t.weeks.toNat ≤ 2 ^ 8 := Nat.pow_le_pow_right (by omega) (by omega)
    omega
  have y0 : w8.cell? ⟨T, 0, none⟩ = some (.int .i64 t.first) := HT8.out.cell 0
  have y1 : w8.cell? ⟨T, 1, none⟩ = some (.int .i64 t.weeks) := HT8.out.cell 1
  have y2 : w8.cell? ⟨T, 2, none⟩ = some (.slice pt t.hols.length ct) := HT8.out.cell 2
  have z0 : w8.cell? ⟨S, 0, none⟩ = some (.string ⟨#[99]⟩) := HS8.out.cell 0
  have z1 : w8.cell? ⟨S, 1, none⟩ = some (.int .i64 x.weeks) := HS8.out.cell 1
  have z2 : w8.cell? ⟨S, 2, none⟩ = some (.int .i64 x.day) := HS8.out.cell 2
  have z3 : w8.cell? ⟨S, 3, none⟩ = some (.int .i64 x.start) := HS8.out.cell 3
  have z4 : w8.cell? ⟨S, 4, none⟩ = some (.int .i64 x.len) := HS8.out.cell 4
  have z5 : w8.cell? ⟨S, 5, none⟩ = some (.string ⟨#[]⟩) := HS8.out.cell 5
  go_wp2_with fail
  clear y0 y1 y2; clear z0 z1 z2 z3 z4 z5; have HDY := Lib.hid (days73 t x pt ct w8.heap.size w8 (Nat.le_refl _) HI8.out htl hx0 hx1)
  unfold trmVal timVal at HDY
  refine HDY.out.mono ?_
  clear HDY; rintro e w9 ⟨vd, rfl, hvd, hb⟩; obtain ⟨ds, hds⟩ : ∃ ds, ds = Tt.daysK t x 20 := ⟨_, rfl⟩
  rw [← hds] at hvd
  obtain ⟨pd, cd, hpd⟩ := RowI.slice hvd
  subst hpd; have HDS := Lib.hid hds; have HY9 := Lib.hid hvd; have HB9 := Lib.hid hb; have hdl := RowI.few hvd; clear hds hvd hb; have HL9 := Lib.hid (HL8.out.trans (HB9.out.mono HL8.out.size))
  have HG9 := Lib.hid (HG8.out.below HB9.out HG8.out.lt)
  have HT9 := Lib.hid (HT8.out.below HB9.out HT8.out.lt)
  have HS9 := Lib.hid (HS8.out.below HB9.out HS8.out.lt)
  have HZ9 := Lib.hid (HZ8.out.below HB9.out HZ8.out.lt)
  have HI9 := Lib.hid ((HI8.out.below HB9.out).mono HB9.out.size)
  have HJ9 := Lib.hid ((HJ8.out.below HB9.out).mono HB9.out.size)
  clear HG8 HT8 HS8 HZ8 HI8 HJ8 HB9; have H69 : Hid (Calls Tryz.prog 69 #[.agg #[.int .i64 g.days, .int .i64 g.slots, .int .i64 g.begin_, .int .i64 g.mins], .agg #[.int .i64 t.first, .int .i64 t.weeks, .slice pt t.hols.length ct], .agg #[.string ⟨#[99]⟩, .int .i64 x.weeks, .int .i64 x.day, .int .i64 x.start, .int .i64 x.len, .string ⟨#[]⟩], .int .i64 1] w9 (RetE (evOf g t (sesC x) 1) (evB g t (sesC x)) w9)) := Lib.hid (ev69 g t (sesC x) 1 pt ct w9.heap.size w9 (Nat.le_refl _) HI9.out htl (HPow.out _ HL9.out) (Nat.lt_of_lt_of_le HSix.out HL9.out.size))
  by_cases hne : ds = []
  · subst hne; obtain ⟨E, hE⟩ : ∃ E, E = evOf g t (sesC x) 1 := ⟨_, rfl⟩
    rw [← hE, sesC_none HDS.out.symm] at H69
    clear hE; have x0 : w9.cell? ⟨G, 0, none⟩ = some (.int .i64 g.days) := HG9.out.cell 0
    have x1 : w9.cell? ⟨G, 1, none⟩ = some (.int .i64 g.slots) := HG9.out.cell 1
    have x2 : w9.cell? ⟨G, 2, none⟩ = some (.int .i64 g.begin_) := HG9.out.cell 2
    have x3 : w9.cell? ⟨G, 3, none⟩ = some (.int .i64 g.mins) := HG9.out.cell 3
    have y0 : w9.cell? ⟨T, 0, none⟩ = some (.int .i64 t.first) := HT9.out.cell 0
    have y1 : w9.cell? ⟨T, 1, none⟩ = some (.int .i64 t.weeks) := HT9.out.cell 1
    have y2 : w9.cell? ⟨T, 2, none⟩ = some (.slice pt t.hols.length ct) := HT9.out.cell 2
    have z0 : w9.cell? ⟨S, 0, none⟩ = some (.string ⟨#[99]⟩) := HS9.out.cell 0
    have z1 : w9.cell? ⟨S, 1, none⟩ = some (.int .i64 x.weeks) := HS9.out.cell 1
    have z2 : w9.cell? ⟨S, 2, none⟩ = some (.int .i64 x.day) := HS9.out.cell 2
    have z3 : w9.cell? ⟨S, 3, none⟩ = some (.int .i64 x.start) := HS9.out.cell 3
    have z4 : w9.cell? ⟨S, 4, none⟩ = some (.int .i64 x.len) := HS9.out.cell 4
    have z5 : w9.cell? ⟨S, 5, none⟩ = some (.string ⟨#[]⟩) := HS9.out.cell 5
    go_wp2_with fail
    refine H69.out.mono ?_
    clear H69; rintro e w10 ⟨p, p2, c, c2, rfl, hp, hp2, hb⟩; have HL10 := Lib.hid (HL9.out.trans (hb.mono HL9.out.size))
    clear hp hp2 hb; clear x0 x1 x2 x3; clear y0 y1 y2; clear z0 z1 z2 z3 z4 z5; obtain ⟨w11, hw11⟩ : ∃ X, X = w10.alloc (.cells #[.string E.uid, .int .i64 E.seq, .bool E.canc, .int .i64 E.days.first, .int .i64 E.days.last, .int .i64 E.days.every, .int .i64 E.days.wd, .slice p E.days.ex.length c, .slice p2 E.days.xt.length c2, .int .i64 E.start, .int .i64 E.mins, .string E.summ, .string E.loc] 82) := ⟨_, rfl⟩
    have HL11 := Lib.hid (show Below w.heap.size w w11 from by rw [hw11]; exact HL10.out.alloc HL10.out.size _)
    unfold evVal evCells
    go_upto_region 9 with (fail)
    rw [← hw11]; clear hw11; go_wp2_with fail
    refine (HAW.out _ HL11.out).mono ?_
    rintro e we ⟨rfl, hb⟩; have HE := Lib.hid ((HL11.out).trans (hb.mono (HL11.out).size))
    clear hb; go_wp2_with fail
    go_ret; exact ⟨rfl, HE.out⟩
  obtain ⟨E, hE⟩ : ∃ E, E = evIs g t (sesC x) 1 := ⟨_, rfl⟩
  have HPS := Lib.hid (sesC_parts HGV.out HTV.out HFT.out (by rw [← HDS.out]; exact hne))
  rw [evOf_yes ((evB_iff _ _ _).2 HPS.out), ← hE, (evB_iff _ _ _).2 HPS.out] at H69
  have HSH := Lib.hid (show_all HPS.out (Tt.code zn.data.toList) zv sh HZV.out t1 (by omega))
  have HCK := Lib.hid (evIs_check HPS.out 1 64 (by decide) (by decide))
  have HDD := Lib.hid (show Tt.serV E.days = 0 ∧ Tt.serDays E.days = ds from by rw [hE, HDS.out]; exact evIs_days HPS.out 1)
  have HEB := Lib.hid (show EvB E from by rw [hE]; exact evIs_b HPS.out 1)
  have HEU := Lib.hid (show E.uid.size ≤ 4611686018427387904 from by rw [hE]; exact (evIs_b HPS.out 1).uid)
  rw [← hE] at HSH
  have HDS2 := Lib.hid (show ∀ d ∈ ds, 0 ≤ d ∧ d ≤ 36524 from fun d hd => by have := Tt.daysK_bd t x (by rw [← HDS.out]; exact hd); omega)
  have hdp : 0 < ds.length := List.length_pos_iff.2 hne
  have HSD := Lib.hid (show (startsV (Tt.code zn.data.toList) zv sh E).2 = 0 ∧ ShowD (Tt.code zn.data.toList) zv sh (g.begin_ + x.start * g.mins) ds (startsV (Tt.code zn.data.toList) zv sh E).1 from by have := HSH.out; rw [HDS.out]; exact this)
  have hxl : E.days.ex.length ≤ 4611686018427387903 ∧ E.days.xt.length ≤ 4611686018427387903 := by rw [hE]; exact ⟨(evIs_b HPS.out 1).ex, (evIs_b HPS.out 1).xt⟩
  have hG2 := Tt.grid_parts HGV.out
  have hm0 := Int.mul_nonneg HX.out.s0 (show 0 ≤ g.mins by omega)
  have hm1 : x.start * g.mins ≤ 8 * 120 := Int.le_trans (Int.mul_le_mul_of_nonneg_right (show x.start ≤ 8 by have := HX.out.l1; have := HX.out.l0; omega) (by omega)) (Int.mul_le_mul_of_nonneg_left (by omega) (by omega))
  clear hne hE HSH HCK; have x0 : w9.cell? ⟨G, 0, none⟩ = some (.int .i64 g.days) := HG9.out.cell 0
  have x1 : w9.cell? ⟨G, 1, none⟩ = some (.int .i64 g.slots) := HG9.out.cell 1
  have x2 : w9.cell? ⟨G, 2, none⟩ = some (.int .i64 g.begin_) := HG9.out.cell 2
  have x3 : w9.cell? ⟨G, 3, none⟩ = some (.int .i64 g.mins) := HG9.out.cell 3
  have y0 : w9.cell? ⟨T, 0, none⟩ = some (.int .i64 t.first) := HT9.out.cell 0
  have y1 : w9.cell? ⟨T, 1, none⟩ = some (.int .i64 t.weeks) := HT9.out.cell 1
  have y2 : w9.cell? ⟨T, 2, none⟩ = some (.slice pt t.hols.length ct) := HT9.out.cell 2
  have z0 : w9.cell? ⟨S, 0, none⟩ = some (.string ⟨#[99]⟩) := HS9.out.cell 0
  have z1 : w9.cell? ⟨S, 1, none⟩ = some (.int .i64 x.weeks) := HS9.out.cell 1
  have z2 : w9.cell? ⟨S, 2, none⟩ = some (.int .i64 x.day) := HS9.out.cell 2
  have z3 : w9.cell? ⟨S, 3, none⟩ = some (.int .i64 x.start) := HS9.out.cell 3
  have z4 : w9.cell? ⟨S, 4, none⟩ = some (.int .i64 x.len) := HS9.out.cell 4
  have z5 : w9.cell? ⟨S, 5, none⟩ = some (.string ⟨#[]⟩) := HS9.out.cell 5
  go_wp2_with fail
  refine H69.out.mono ?_
  clear H69; rintro e w10 ⟨p, p2, c, c2, rfl, hp, hp2, hb⟩; have HB10 := Lib.hid hb; have HP10 := Lib.hid hp; have HQ10 := Lib.hid hp2; clear hp hp2 hb; clear x0 x1 x2 x3; clear y0 y1 y2; clear z0 z1 z2 z3 z4 z5; obtain ⟨Q, hQ⟩ : ∃ x, x = w10.heap.size := ⟨_, rfl⟩
  obtain ⟨w11, hw11⟩ : ∃ X, X = w10.alloc (.cells #[.string E.uid, .int .i64 E.seq, .bool E.canc, .int .i64 E.days.first, .int .i64 E.days.last, .int .i64 E.days.every, .int .i64 E.days.wd, .slice p E.days.ex.length c, .slice p2 E.days.xt.length c2, .int .i64 E.start, .int .i64 E.mins, .string E.summ, .string E.loc] 82) := ⟨_, rfl⟩
  have HK11 := Lib.hid (show Below w10.heap.size w10 w11 from by rw [hw11]; exact below_box w10 _)
  have HQ11 := Lib.hid (show Blk Q #[.string E.uid, .int .i64 E.seq, .bool E.canc, .int .i64 E.days.first, .int .i64 E.days.last, .int .i64 E.days.every, .int .i64 E.days.wd, .slice p E.days.ex.length c, .slice p2 E.days.xt.length c2, .int .i64 E.start, .int .i64 E.mins, .string E.summ, .string E.loc] 82 w11 from by rw [hw11, hQ]; exact Blk.new w10 _ _)
  have HB11 := Lib.hid (HB10.out.trans (HK11.out.mono HB10.out.size))
  have HL11 := Lib.hid (HL9.out.trans (HB11.out.mono HL9.out.size))
  have HZ11 := Lib.hid (HZ9.out.below HB11.out HZ9.out.lt)
  have HJ11 := Lib.hid ((HJ9.out.below HB11.out).mono HB11.out.size)
  have HA11 := Lib.hid (RowI.ao (show RowI w9.heap.size w11 _ E.days.ex from ownsRow_below HP10.out HK11.out))
  have HC11 := Lib.hid (RowI.ao (show RowI w9.heap.size w11 _ E.days.xt from ownsRow_below HQ10.out HK11.out))
  unfold evVal evCells
  go_upto_region 9 with (fail)
  rw [← hw11, ← hQ]; clear hw11 hQ HP10 HQ10 HK11 HB10; have hd0 : ((ds.length : Int) == 0) = false := beq_eq_false_iff_ne.2 (by omega)
  have H55 := Lib.hid (starts55 zn zv sh pz cz E w11.heap.size w11 p p2 c c2 (Nat.le_refl _) HA11.out HC11.out HEB.out HEU.out HJ11.out hsh)
  rw [HSD.out.1] at H55
  unfold evVal evCells at H55
  have q0 : w11.cell? ⟨Q, 0, none⟩ = some (.string E.uid) := HQ11.out.cell 0
  have q1 : w11.cell? ⟨Q, 1, none⟩ = some (.int .i64 E.seq) := HQ11.out.cell 1
  have q2 : w11.cell? ⟨Q, 2, none⟩ = some (.bool E.canc) := HQ11.out.cell 2
  have q3 : w11.cell? ⟨Q, 3, none⟩ = some (.int .i64 E.days.first) := HQ11.out.cell 3
  have q4 : w11.cell? ⟨Q, 4, none⟩ = some (.int .i64 E.days.last) := HQ11.out.cell 4
  have q5 : w11.cell? ⟨Q, 5, none⟩ = some (.int .i64 E.days.every) := HQ11.out.cell 5
  have q6 : w11.cell? ⟨Q, 6, none⟩ = some (.int .i64 E.days.wd) := HQ11.out.cell 6
  have q7 : w11.cell? ⟨Q, 7, none⟩ = some (.slice p E.days.ex.length c) := HQ11.out.cell 7
  have q8 : w11.cell? ⟨Q, 8, none⟩ = some (.slice p2 E.days.xt.length c2) := HQ11.out.cell 8
  have q9 : w11.cell? ⟨Q, 9, none⟩ = some (.int .i64 E.start) := HQ11.out.cell 9
  have q10 : w11.cell? ⟨Q, 10, none⟩ = some (.int .i64 E.mins) := HQ11.out.cell 10
  have q11 : w11.cell? ⟨Q, 11, none⟩ = some (.string E.summ) := HQ11.out.cell 11
  have q12 : w11.cell? ⟨Q, 12, none⟩ = some (.string E.loc) := HQ11.out.cell 12
  have z0 : w11.cell? ⟨Z, 0, none⟩ = some (.string zn) := HZ11.out.cell 0
  have z1 : w11.cell? ⟨Z, 1, none⟩ = some (.int .i64 zv) := HZ11.out.cell 1
  have z2 : w11.cell? ⟨Z, 2, none⟩ = some (.slice pz sh.length cz) := HZ11.out.cell 2
  go_wp2_with fail
  clear q0 q1 q2 q3 q4 q5 q6 q7 q8 q9 q10 q11 q12; clear z0 z1 z2; refine H55.out.mono ?_
  clear H55; rintro e w12 ⟨u, rfl, hu, hb⟩; obtain ⟨ls, hls⟩ : ∃ ls, ls = (startsV (Tt.code zn.data.toList) zv sh E).1 := ⟨_, rfl⟩
  rw [← hls] at hu
  have HSW := Lib.hid (show ShowD (Tt.code zn.data.toList) zv sh (g.begin_ + x.start * g.mins) ds ls from by rw [hls]; exact HSD.out.2)
  obtain ⟨pl, cl, hpl⟩ := RowI.slice hu
  subst hpl; have HU12 := Lib.hid (show RowI w11.heap.size w12 (.slice pl ls.length cl) ls from hu)
  have HB12 := Lib.hid (HB11.out.trans (hb.mono HB11.out.size))
  have HK12 := Lib.hid hb; clear hls hu hb HSD; rw [HSW.out.len]
  rw [HSW.out.len] at HU12
  have HQ12 := Lib.hid (HQ11.out.below HK12.out HQ11.out.lt)
  have HA12 := Lib.hid ((HA11.out.below HK12.out).mono HK12.out.size)
  have HC12 := Lib.hid ((HC11.out.below HK12.out).mono HK12.out.size)
  have q0 : w12.cell? ⟨Q, 0, none⟩ = some (.string E.uid) := HQ12.out.cell 0
  have q1 : w12.cell? ⟨Q, 1, none⟩ = some (.int .i64 E.seq) := HQ12.out.cell 1
  have q2 : w12.cell? ⟨Q, 2, none⟩ = some (.bool E.canc) := HQ12.out.cell 2
  have q3 : w12.cell? ⟨Q, 3, none⟩ = some (.int .i64 E.days.first) := HQ12.out.cell 3
  have q4 : w12.cell? ⟨Q, 4, none⟩ = some (.int .i64 E.days.last) := HQ12.out.cell 4
  have q5 : w12.cell? ⟨Q, 5, none⟩ = some (.int .i64 E.days.every) := HQ12.out.cell 5
  have q6 : w12.cell? ⟨Q, 6, none⟩ = some (.int .i64 E.days.wd) := HQ12.out.cell 6
  have q7 : w12.cell? ⟨Q, 7, none⟩ = some (.slice p E.days.ex.length c) := HQ12.out.cell 7
  have q8 : w12.cell? ⟨Q, 8, none⟩ = some (.slice p2 E.days.xt.length c2) := HQ12.out.cell 8
  have q9 : w12.cell? ⟨Q, 9, none⟩ = some (.int .i64 E.start) := HQ12.out.cell 9
  have q10 : w12.cell? ⟨Q, 10, none⟩ = some (.int .i64 E.mins) := HQ12.out.cell 10
  have q11 : w12.cell? ⟨Q, 11, none⟩ = some (.string E.summ) := HQ12.out.cell 11
  have q12 : w12.cell? ⟨Q, 12, none⟩ = some (.string E.loc) := HQ12.out.cell 12
  go_wp2_with fail
  clear q0 q1 q2 q3 q4 q5 q6 q7 q8 q9 q10 q11 q12; have H74 := Lib.hid (days74 E.days w12.heap.size w12 hxl.1 hxl.2 p p2 c c2 (Nat.le_refl _) HA12.out HC12.out)
  rw [HDD.out.2] at H74
  unfold serVal at H74
  refine H74.out.mono ?_
  clear H74; rintro e w13 ⟨uu, rfl, hu, hb⟩; obtain ⟨pu, cu, hpu⟩ := ownsRow_len hu
  subst hpu; have HB13 := Lib.hid (HB12.out.trans (hb.mono HB12.out.size))
  have HK13 := Lib.hid hb; have HV13 := Lib.hid (RowI.ao (show RowI w12.heap.size w13 (.slice pu ds.length cu) ds from hu))
  have HY13 := Lib.hid (RowI.ao (show RowI w8.heap.size w13 (.slice pd ds.length cd) ds from ownsRow_below HY9.out HB13.out))
  clear hu hb; have H57 := Lib.hid (sameints57 ds ds pu pd cu cd w13 w13.heap.size HV13.out HY13.out hdl)
  rw [decide_eq_true (show ds = ds from rfl)] at H57
  go_wp2_with fail
  refine H57.out.mono ?_
  clear H57; rintro e w14 ⟨rfl, nq, hw14⟩; have HK14 := Lib.hid (show Below w13.heap.size w13 w14 from by rw [hw14]; obtain ⟨w2, h1, h2, -⟩ := redrew w13 nq; rw [← h1]; exact h2 _)
  clear hw14; have HB14 := Lib.hid (HB13.out.trans (HK14.out.mono HB13.out.size))
  have HL14 := Lib.hid (HL9.out.trans (HB14.out.mono HL9.out.size))
  have HG14 := Lib.hid (HG9.out.below HB14.out HG9.out.lt)
  have HS14 := Lib.hid (HS9.out.below HB14.out HS9.out.lt)
  have HZ14 := Lib.hid (HZ9.out.below HB14.out HZ9.out.lt)
  have HY14 := Lib.hid ((HY13.out.below HK14.out).mono HK14.out.size)
  have HKX := Lib.hid (HK13.out.trans (HK14.out.mono HK13.out.size))
  have HU14 := Lib.hid ((HU12.out.ao.below HKX.out).mono HKX.out.size)
  have HJ14 := Lib.hid ((HJ9.out.below HB14.out).mono HB14.out.size)
  clear HG9 HT9 HS9 HZ9 HI9 HJ9 HY9 HQ11 HQ12 HA11 HA12 HC11 HC12 HZ11 HJ11 HU12 HV13 HY13 HB11 HB12 HB13 HK12 HK13 HK14 HKX hd0; go_wp2_with fail
  go_loopw [13] (fun iv wr => ∃ k : Nat, iv = .int .i64 k ∧ k ≤ ds.length ∧ Hid (Below w14.heap.size w14 wr)) (fun iv _ => ds.length - (intOf iv).toNat)
  case atStart => exact ⟨0, rfl, Nat.zero_le _, Lib.hid (Below.refl _ _)⟩
  case round =>
    obtain ⟨k, rfl, hk, HW⟩ := hrel; have HLr := Lib.hid (HL14.out.trans (HW.out.mono HL14.out.size))
    by_cases hlt : k < ds.length
    rotate_left
    · have hki : ¬ (k : Int) < (ds.length : Int) := by omega
      go_wp2_with fail
      refine (HAW.out _ HLr.out).mono ?_
      rintro e we ⟨rfl, hb⟩; have HE := Lib.hid ((HLr.out).trans (hb.mono (HLr.out).size))
      clear hb; go_wp2_with fail
      go_ret; exact ⟨rfl, HE.out⟩
    have hki : (k : Int) < (ds.length : Int) := by omega
    have hk0 : (0 : Int) ≤ (k : Int) := by omega
    obtain ⟨d, hd⟩ : ∃ d, ds[k]? = some d := ⟨_, List.getElem?_eq_getElem hlt⟩
    obtain ⟨l, hl⟩ : ∃ l, ls[k]? = some l := ⟨_, List.getElem?_eq_getElem (by rw [HSW.out.len]; exact hlt)⟩
    obtain ⟨d0, d1, l0, l1, hor⟩ := HSW.out.each k l d hl hd
    have HOR := Lib.hid hor; obtain ⟨bd, od, hpd, hbd, hcd⟩ := HY14.out.form hdp
    obtain ⟨bl, ol, hpl, hbl, hcl⟩ := HU14.out.form (by rw [HSW.out.len]; exact hdp)
    subst hpd hpl
    have cd0 := (HW.out.cell (p := ⟨bd, od + k, none⟩) (by simpa using hbd)).trans (hcd k d hd)
    have HCL := Lib.hid ((HW.out.cell (p := ⟨bl, ol + k, none⟩) (by simpa using hbl)).trans (hcl k l hl))
    clear hcd hcl hd hl hor; have HGr := Lib.hid (HG14.out.below HW.out HG14.out.lt)
    have HSr := Lib.hid (HS14.out.below HW.out HS14.out.lt)
    have HZr := Lib.hid (HZ14.out.below HW.out HZ14.out.lt)
    have x0 : wr.cell? ⟨G, 0, none⟩ = some (.int .i64 g.days) := HGr.out.cell 0
    have x1 : wr.cell? ⟨G, 1, none⟩ = some (.int .i64 g.slots) := HGr.out.cell 1
    have x2 : wr.cell? ⟨G, 2, none⟩ = some (.int .i64 g.begin_) := HGr.out.cell 2
    have x3 : wr.cell? ⟨G, 3, none⟩ = some (.int .i64 g.mins) := HGr.out.cell 3
    have z0 : wr.cell? ⟨S, 0, none⟩ = some (.string ⟨#[99]⟩) := HSr.out.cell 0
    have z1 : wr.cell? ⟨S, 1, none⟩ = some (.int .i64 x.weeks) := HSr.out.cell 1
    have z2 : wr.cell? ⟨S, 2, none⟩ = some (.int .i64 x.day) := HSr.out.cell 2
    have z3 : wr.cell? ⟨S, 3, none⟩ = some (.int .i64 x.start) := HSr.out.cell 3
    have z4 : wr.cell? ⟨S, 4, none⟩ = some (.int .i64 x.len) := HSr.out.cell 4
    have z5 : wr.cell? ⟨S, 5, none⟩ = some (.string ⟨#[]⟩) := HSr.out.cell 5
    go_wp2_with fail
    have hw0 : IntKind.i64.wrap (1440 * d) = 1440 * d := by rw [IntKind.wrap_i64]; omega
    have hw1 : IntKind.i64.wrap (1440 * d + g.begin_) = 1440 * d + g.begin_ := by rw [IntKind.wrap_i64]; omega
    have hw2 : IntKind.i64.wrap (x.start * g.mins) = x.start * g.mins := by rw [IntKind.wrap_i64]; omega
    have hw3 : IntKind.i64.wrap (1440 * d + g.begin_ + x.start * g.mins) = 1440 * d + g.begin_ + x.start * g.mins := by rw [IntKind.wrap_i64]; omega
    go_quiet (fail)
    clear hw0 hw1 hw2 hw3; clear x0 x1 x2 x3; clear z0 z1 z2 z3 z4 z5; clear cd0; obtain ⟨wq, hwq, hB2, hC2, hH2⟩ := redrew wr nq
    have HWq := Lib.hid (HW.out.trans (hB2 _))
    have HCq := Lib.hid (((hC2 ⟨bl, ol + k, none⟩).trans HCL.out))
    rw [← hwq]; clear hwq hB2 hC2 hH2 HGr HSr HZr HCL HLr HW; obtain ⟨wt, hwt⟩ : ∃ q, q = 1440 * d + g.begin_ + x.start * g.mins := ⟨_, rfl⟩
    rw [← hwt]; obtain ⟨nn, hnn⟩ : ∃ q, q = l + Tt.offAt zv sh l := ⟨_, rfl⟩
    have HO2 := Lib.hid (show nn = wt ∨ Tt.instV (Tt.code zn.data.toList) zv sh wt = [] from by have := HOR.out; rw [← Int.add_assoc, ← hwt, ← hnn] at this; exact this)
    have HZq := Lib.hid (HZ14.out.below HWq.out HZ14.out.lt)
    have hzl := HZq.out.lt; have HLOC : Hid (∀ W, Below wq.heap.size wq W → Calls Tryz.prog 75 #[.agg #[.string zn, .int .i64 zv, .slice pz sh.length cz], .int .i64 l] W fun e w' => e = .returned (.tuple #[.int .i64 nn, .int .i64 0]) ∧ Below W.heap.size W w') := Lib.hid (fun W hW => by
      rw [hnn]
      have hj := (HJ14.out.below (HWq.out.trans (hW.mono HWq.out.size))).mono (HWq.out.trans (hW.mono HWq.out.size)).size
      exact local75 zn zv sh pz cz W.heap.size l W (Nat.le_refl _) hj hsh HZV.out l0 l1)
    clear hwt hnn HOR; have hol : bl < wq.heap.size := Nat.lt_of_lt_of_le hbl HWq.out.size
    have HKP : Hid (∀ W', Below wq.heap.size wq W' → W'.cell? ⟨Z, 0, none⟩ = some (.string zn) ∧ W'.cell? ⟨Z, 1, none⟩ = some (.int .i64 zv) ∧ W'.cell? ⟨Z, 2, none⟩ = some (.slice pz sh.length cz) ∧ W'.cell? ⟨bl, ol + k, none⟩ = some (.int .i64 l)) := Lib.hid (fun W' hW => ⟨(HZq.out.below hW hzl).cell 0, (HZq.out.below hW hzl).cell 1, (HZq.out.below hW hzl).cell 2, (hW.cell (p := ⟨bl, ol + k, none⟩) (by simpa using hol)).trans HCq.out⟩)
    have hkl : (k : Int) < (ls.length : Int) := by rw [HSW.out.len]; exact hki
    clear hol hki; go_wp2_with fail
    go_region_held3 (fun W' => W'.cell? ⟨Z, 0, none⟩ = some (.string zn) ∧ W'.cell? ⟨Z, 1, none⟩ = some (.int .i64 zv) ∧ W'.cell? ⟨Z, 2, none⟩ = some (.slice pz sh.length cz) ∧ W'.cell? ⟨bl, ol + k, none⟩ = some (.int .i64 l)) (first | exact HKP.out _ (Below.refl _ _) | exact HKP.out _ (below_drw (Below.refl _ _)) | exact HKP.out _ ((below_drw (Below.refl _ _)).trans hb5)) (first | (go_at_call 75; refine (HLOC.out _ (below_drw (Below.refl _ _))).mono ?_; rintro e w5 ⟨rfl, hb5⟩))
    have HW5 := Lib.hid (HWq.out.trans (((below_drw (Below.refl _ wq)).trans hb5).mono HWq.out.size))
    have HZ5 := Lib.hid (HZ14.out.below HW5.out HZ14.out.lt)
    clear hb5 HKP HLOC HCq; by_cases hq : nn = wt
    · subst hq; go_wp2_with fail
      go_roundw
      case rel => exact ⟨k + 1, by go_num, by omega, HW5⟩
      case measure => simp [intOf]; omega
    have HIN := Lib.hid (show Tt.instV (Tt.code zn.data.toList) zv sh wt = [] from HO2.out.resolve_left hq)
    have hqb : (nn != wt) = true := by rw [bne_iff_ne]; exact hq
    clear hq; have z0 : w5.cell? ⟨Z, 0, none⟩ = some (.string zn) := HZ5.out.cell 0
    have z1 : w5.cell? ⟨Z, 1, none⟩ = some (.int .i64 zv) := HZ5.out.cell 1
    have z2 : w5.cell? ⟨Z, 2, none⟩ = some (.slice pz sh.length cz) := HZ5.out.cell 2
    go_wp2_with fail
    clear z0 z1 z2; have H76 := Lib.hid (instants76 zn zv sh pz cz w5.heap.size wt w5 (Nat.le_refl _) ((HJ14.out.below HW5.out).mono HW5.out.size) hsh)
    rw [HIN.out] at H76
    refine H76.out.mono ?_
    clear H76; rintro e w6 ⟨uu, rfl, hu, hb6⟩; obtain ⟨pu, cu, hpu⟩ := ownsRow_len hu
    subst hpu; have HW6 := Lib.hid (HW5.out.trans (hb6.mono HW5.out.size))
    clear hu hb6; go_wp2_with fail
    go_roundw
    case rel => exact ⟨k + 1, by go_num, by omega, HW6⟩
    case measure => simp [intOf]; omega
end Go.Proofs.YtageielcdebjlaaGreatDoor
