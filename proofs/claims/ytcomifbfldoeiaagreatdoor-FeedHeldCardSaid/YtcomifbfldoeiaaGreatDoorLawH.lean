/- FeedHeld: the walk of the law. -/
import Derived.Test.YtcomifbfldoeiaaGreatDoorHeldW
import Derived.Test.YtcomifbfldoeiaaGreatDoorMak
import Derived.Test.YtcomifbfldoeiaaGreatDoorGenT2
import Derived.Test.YtcomifbfldoeiaaGreatDoorPk32
import Derived.Test.YtcomifbfldoeiaaGreatDoorPk13
namespace Go.Proofs.YtcomifbfldoeiaaGreatDoor
open Go.RowKit

set_option maxHeartbeats 32000000 in
set_option maxRecDepth 100000 in
theorem lawH (ao : Option Addr) (len cap : Nat) (wk : Int) (w : World) (mx : Int) (hk0 : 0 ≤ wk) (hk1 : wk ≤ 255) (hn : Nums w ao len) (hm : w.cell? ⟨0, 0, none⟩ = some (.int .i64 mx)) (hTz : Tz w) (hP : Pow w) (h6 : 6 < w.heap.size) : Calls Tryz.prog 9 #[.slice ao len cap, .int .u8 wk] w fun e w' => e = .returned (.bool true) ∧ Below w.heap.size w w' := by
  have HN := Lib.hid hn
  have HSix := Lib.hid h6
  have HAW : Hid (∀ W, Below w.heap.size w W → Calls Tryz.prog 35 #[] W fun e w' => e = .returned (.bool true) ∧ Below W.heap.size W w') := Lib.hid (fun W hW => awake_any W mx ((hW.cell (p := ⟨0, 0, none⟩) (show 0 < w.heap.size by omega)).trans hm) (by have := hW.size; omega))
  have HPow : Hid (∀ W, Below w.heap.size w W → Pow W) := Lib.hid (fun W hW => hP.below h6 hW)
  have HTZ : Hid (∀ W, Below w.heap.size w W → Tz W) := Lib.hid (fun W hW => hTz.below h6 hW)
  clear hn hP h6 hTz hm
  by_cases hlen : (len : Int) ≤ 400
  rotate_left
  · have hd1 : decide ((len : Int) ≤ 400) = false := decide_eq_false hlen
    go_enter Tryz.func9, Tryz.ntmps9
    go_wp2_with (go_at_call 10; (with_reducible refine (light_any ao len cap _).mono ?_); rintro e w3 ⟨rfl, hw3⟩; rw [hw3, hd1]; clear hw3 w3)
    refine (HAW.out _ (Below.refl w.heap.size w)).mono ?_
    rintro e we ⟨rfl, hb⟩
    have HE := Lib.hid (((Below.refl w.heap.size w)).trans (hb.mono ((Below.refl w.heap.size w)).size))
    clear hb
    go_wp2_with fail
    go_ret
    exact ⟨rfl, HE.out⟩
  have hd1 : decide ((len : Int) ≤ 400) = true := decide_eq_true hlen
  go_enter Tryz.func9, Tryz.ntmps9
  go_wp2_with (go_at_call 10; (with_reducible refine (light_any ao len cap _).mono ?_); rintro e w3 ⟨rfl, hw3⟩; rw [hw3, hd1]; clear hw3 w3)
  have HLEN := Lib.hid hlen
  clear hlen hd1
  refine (roll_any ao len cap w (by have := HLEN.out; omega) HN.out).mono ?_
  rintro e w1 ⟨rfl, hd, hb, hsz⟩
  obtain ⟨b, hbb⟩ : ∃ b, b = w.heap.size := ⟨_, rfl⟩
  rw [← hbb] at hd hsz ⊢
  have HL1 := Lib.hid hb
  have HD1 := Lib.hid hd
  have hwb : w.heap.size ≤ b := by omega
  clear hd hb hbb hsz
  go_wp2_with fail
  refine (grid60v b w1 HD1.out).mono ?_
  rintro e w2 ⟨g, rfl, hgv, g1, g2, g3, g4, hs⟩
  have HGV := Lib.hid hgv
  have HL2 := Lib.hid (HL1.out.trans (hs.but.below hwb HL1.out.size))
  have HD2 := Lib.hid hs.dice
  have hbw : b < w2.heap.size := hs.dice.lt
  clear hgv hs HD1 HL1
  unfold grdVal
  go_wp2_with fail
  refine (term61v b w2 HD2.out).mono ?_
  rintro e w3 ⟨t, v, rfl, hv, hvl, t1, t2, t3, t4, htv, hs⟩
  obtain ⟨pt, ct, hpv⟩ := RowI.slice hv
  subst hpv
  have HTV := Lib.hid htv
  have HV3 := Lib.hid hv
  have HL3 := Lib.hid (HL2.out.trans (hs.but.below hwb HL2.out.size))
  have HD3 := Lib.hid hs.dice
  clear htv hv hs HD2 HL2
  unfold trmVal
  obtain ⟨G, hG⟩ : ∃ x, x = w3.heap.size := ⟨_, rfl⟩
  obtain ⟨T, hT⟩ : ∃ x, x = w3.heap.size + 1 := ⟨_, rfl⟩
  obtain ⟨w4, hw4⟩ : ∃ X, X = (w3.alloc (.cells #[.int .i64 g.days, .int .i64 g.slots, .int .i64 g.begin_, .int .i64 g.mins] 91)).alloc (.cells #[.int .i64 t.first, .int .i64 t.weeks, .slice pt t.hols.length ct] 94) := ⟨_, rfl⟩
  have HK4 := Lib.hid (show Below w3.heap.size w3 w4 from by rw [hw4]; exact (below_box w3 _).trans ((below_box _ _).mono (by simp)))
  have HG4 := Lib.hid (show Blk G #[.int .i64 g.days, .int .i64 g.slots, .int .i64 g.begin_, .int .i64 g.mins] 91 w4 from by rw [hw4, hG]; exact (Blk.new w3 _ _).alloc _)
  have HT4 := Lib.hid (show Blk T #[.int .i64 t.first, .int .i64 t.weeks, .slice pt t.hols.length ct] 94 w4 from by rw [hw4, hT]; exact Blk.new' _ _ _ (by simp))
  have HL4 := Lib.hid (HL3.out.trans (HK4.out.mono HL3.out.size))
  have HD4 := Lib.hid (HD3.out.kept HD3.out.lt HK4.out)
  have HV4 := Lib.hid (show RowI w2.heap.size w4 (.slice pt t.hols.length ct) t.hols from ownsRow_below HV3.out HK4.out)
  have hGb : G ≠ b := by have := HD3.out.lt; omega
  have hTb : T ≠ b := by have := HD3.out.lt; omega
  go_upto_region 5 with (fail)
  rw [← hw4, ← hT, ← hG]
  clear hw4 hT hG HK4 HV3 HD3 HL3
  have x0 : w4.cell? ⟨G, 0, none⟩ = some (.int .i64 g.days) := HG4.out.cell 0
  have x1 : w4.cell? ⟨G, 1, none⟩ = some (.int .i64 g.slots) := HG4.out.cell 1
  have x2 : w4.cell? ⟨G, 2, none⟩ = some (.int .i64 g.begin_) := HG4.out.cell 2
  have x3 : w4.cell? ⟨G, 3, none⟩ = some (.int .i64 g.mins) := HG4.out.cell 3
  have y0 : w4.cell? ⟨T, 0, none⟩ = some (.int .i64 t.first) := HT4.out.cell 0
  have y1 : w4.cell? ⟨T, 1, none⟩ = some (.int .i64 t.weeks) := HT4.out.cell 1
  have y2 : w4.cell? ⟨T, 2, none⟩ = some (.slice pt t.hols.length ct) := HT4.out.cell 2
  have HST := Lib.hid (states62v b g t pt ct w4 HD4.out g1 g2 g3 g4 t3 t4)
  unfold grdVal trmVal at HST
  go_wp2_with fail
  clear x0 x1 x2 x3 y0 y1 y2
  refine HST.out.mono ?_
  clear HST
  rintro e w5 ⟨u, l2, rfl, ho, hl4, hle, hs⟩
  obtain ⟨pu, cu, hu⟩ := ownsRow_len ho.row
  subst hu
  have HO5 := Lib.hid ho
  have HL5 := Lib.hid (HL4.out.trans (hs.but.below hwb HL4.out.size))
  have HG5 := Lib.hid (HG4.out.but hs.but hGb)
  have HT5 := Lib.hid (HT4.out.but hs.but hTb)
  have HV5 := Lib.hid (show RowI w2.heap.size w5 (.slice pt t.hols.length ct) t.hols from row_but HV4.out hbw hs.but)
  obtain ⟨ls, hls⟩ : ∃ ls, ls = l2.map (·.2) := ⟨_, rfl⟩
  have HLA := Lib.hid (show LstAt w5.heap.size w5 pu ls from by rw [hls]; exact RowSS.lst ho (fun q hq => by have := (hle q hq).1; omega))
  have HVO := Lib.hid (show VersOk g t ls from ⟨HGV.out, HTV.out, by rw [hls, List.length_map]; exact hl4, fun l hl => by rw [hls] at hl; obtain ⟨q, hq, rfl⟩ := List.mem_map.1 hl; exact hle q hq⟩)
  obtain ⟨N, hN⟩ : ∃ N, N = ls.length := ⟨_, rfl⟩
  have hl2 : l2.length = N := by rw [hN, hls, List.length_map]
  rw [hl2] at hl4 ⊢
  have HNL := Lib.hid hN
  have HFM : Hid (pu = none ∧ N = 0 ∧ cu = 0 ∨ ∃ gp, pu = some ⟨gp, 0, none⟩ ∧ N ≤ cu ∧ cu ≤ maxLen) := Lib.hid (by
    have hr := HO5.out.row
    rw [hl2] at hr
    rcases hr.2 with ⟨h1, h2⟩ | ⟨gp, cap, cur, h1, _, _, h3, h4, _⟩
    · simp only [Value.slice.injEq] at h1; exact .inl ⟨h1.1, h2, h1.2.2⟩
    · simp only [Value.slice.injEq] at h1; exact .inr ⟨gp, h1.1, by omega, by omega⟩)
  clear ho hs hle hls hN hl2 HO5 HG4 HT4 HV4 HL4 HD4 hGb hTb
  by_cases hNz : N = 0
  · have hz : ((N : Int) == 0) = true := by simpa using hNz
    clear hNz
    go_wp2_with fail
    refine (HAW.out _ HL5.out).mono ?_
    rintro e we ⟨rfl, hb⟩
    have HE := Lib.hid ((HL5.out).trans (hb.mono (HL5.out).size))
    clear hb
    go_wp2_with fail
    go_ret
    exact ⟨rfl, HE.out⟩
  have hz : ((N : Int) == 0) = false := by simpa using hNz
  obtain ⟨M, hM⟩ : ∃ M, N = M + 1 := ⟨N - 1, by omega⟩
  have HMN := Lib.hid hM
  have hms : (N : Int) - 1 = (M : Int) := by omega
  have hwm : IntKind.i64.wrap ((N : Int) - 1) = (M : Int) := by rw [IntKind.wrap_i64]; omega
  have hwm0 : IntKind.i64.wrap (M : Int) = (M : Int) := by rw [IntKind.wrap_i64]; omega
  have hM0 : (0 : Int) ≤ (M : Int) := by omega
  have hMn : ((M : Int)).toNat = M := by omega
  have hMc : (M : Int) ≤ (cu : Int) := by rcases HFM.out with ⟨_, h2, _⟩ | ⟨_, _, h2, _⟩ <;> omega
  have hMN : (M : Int) < (N : Int) := by omega
  have HNZ := Lib.hid hNz
  clear hNz hM
  obtain ⟨l, hl⟩ : ∃ l, ls[M]? = some l := ⟨_, List.getElem?_eq_getElem (by have := HNL.out; have := HMN.out; omega)⟩
  obtain ⟨bl, ol, pl, cl, hpu, hbl, hlc, hl1, hl2, hl3, hls⟩ := HLA.out.at_ hl
  have HCM := Lib.hid (show Calls Tryz.prog 39 #[.agg #[.int .i64 g.days, .int .i64 g.slots, .int .i64 g.begin_, .int .i64 g.mins], .agg #[.int .i64 t.first, .int .i64 t.weeks, .slice pt t.hols.length ct], .string ⟨#[120]⟩, .slice pu N cu] w5 fun e w' => ∃ (p : Option Addr) (kq : Nat) (ts : List (Ev × Value × Value)), e = .returned (.tuple #[.agg #[.string ⟨#[120]⟩, .int .i64 N, .slice p ts.length kq], .int .i64 0]) ∧ RowT w5.heap.size w' (.slice p ts.length kq) ts ∧ ts.map (·.1) = makK g t ls N ∧ Below w5.heap.size w5 w' from by
    have hi2 : Ints w5.heap.size w5 pt t.hols := RowI.ao (lo := w2.heap.size) HV5.out
    have h := mak63 g t pt ct ⟨#[120]⟩ ls pu cu w5 hi2 (by omega) HLA.out (by have := HNL.out; omega) (HTZ.out _ HL5.out) (HPow.out _ HL5.out) (Nat.lt_of_lt_of_le HSix.out HL5.out.size)
    rw [← HNL.out] at h
    refine h.mono ?_
    rintro e w' ⟨⟨v, ts, rfl, hr, he⟩, hb⟩
    obtain ⟨p, q, hq, -, -⟩ := hr.seg
    subst hq
    have hc := HVO.out.code N
    have hf := HVO.out.feed (k := N) (by have := HNL.out; omega)
    rw [List.take_of_length_le (by have := HNL.out; omega)] at hc hf
    refine ⟨p, q, ts, ?_, hr, ?_, hb⟩
    · rw [hc, hf]
    · rw [he, hf])
  subst hpu
  have HSA := Lib.hid hls
  have HLC := Lib.hid hlc
  have HLL := Lib.hid hl
  have HLM := Lib.hid (List.mem_of_getElem? hl)
  have H44 := Lib.hid (show ∀ W, Below w5.heap.size w5 W → Calls Tryz.prog 44 #[.slice pl l.length cl, .int .i64 t.weeks] W fun e w' => e = .returned (.int .i64 0) ∧ Below W.heap.size W w' from fun W hW => by
    have h := chg151 l t.weeks pl cl W.heap.size W (Nat.le_refl _) ((HSA.out.below hW).mono hW.size) (by omega)
    rw [ver_chg (HVO.out.each l HLM.out).2 HGV.out (by omega) (by omega) (HVO.out.each l HLM.out).1] at h
    exact h)
  obtain ⟨ln, hln⟩ : ∃ ln, ln = l.length := ⟨_, rfl⟩
  rw [← hln] at HLC H44 hl1 hl3
  have HLN := Lib.hid hln
  clear hls hlc hl hln
  have x0 : w5.cell? ⟨G, 0, none⟩ = some (.int .i64 g.days) := HG5.out.cell 0
  have x1 : w5.cell? ⟨G, 1, none⟩ = some (.int .i64 g.slots) := HG5.out.cell 1
  have x2 : w5.cell? ⟨G, 2, none⟩ = some (.int .i64 g.begin_) := HG5.out.cell 2
  have x3 : w5.cell? ⟨G, 3, none⟩ = some (.int .i64 g.mins) := HG5.out.cell 3
  have y0 : w5.cell? ⟨T, 0, none⟩ = some (.int .i64 t.first) := HT5.out.cell 0
  have y1 : w5.cell? ⟨T, 1, none⟩ = some (.int .i64 t.weeks) := HT5.out.cell 1
  have y2 : w5.cell? ⟨T, 2, none⟩ = some (.slice pt t.hols.length ct) := HT5.out.cell 2
  have lc : w5.cell? ⟨bl, ol + M, none⟩ = some (.slice pl ln cl) := HLC.out
  go_upto_region 10 with (go_at_call 39; (with_reducible refine HCM.out.mono ?_); rintro e w7 ⟨pb, qb, tb, rfl, hr, hm, hb1⟩; have HRB7 := Lib.hid hr; have HMB := Lib.hid hm; have HB7 := Lib.hid hb1; clear hr hm hb1)
  clear x0 x1 x2 x3 y0 y1 y2 lc HCM
  obtain ⟨lb, hlb⟩ : ∃ lb, lb = tb.length := ⟨_, rfl⟩
  rw [← hlb] at HRB7 ⊢
  have HLb := Lib.hid hlb
  clear hlb
  obtain ⟨B, hB⟩ : ∃ B, B = w7.heap.size := ⟨_, rfl⟩
  obtain ⟨w8, hw8⟩ : ∃ Q, Q = w7.alloc (.cells #[.string ⟨#[120]⟩, .int .i64 N, .slice pb lb qb] 49) := ⟨_, rfl⟩
  have HB8 := Lib.hid (show Blk B #[.string ⟨#[120]⟩, .int .i64 N, .slice pb lb qb] 49 w8 from by rw [hw8, hB]; exact Blk.new w7 _ _)
  have HK8 := Lib.hid (show Below w5.heap.size w5 w8 from by rw [hw8]; exact HB7.out.trans ((below_box w7 _).mono HB7.out.size))
  have HRB8 := Lib.hid (show RowT w5.heap.size w8 (.slice pb lb qb) tb from by rw [hw8]; exact HRB7.out.alloc _)
  rw [← hw8, ← hB]
  clear hw8 hB HRB7 HB7
  have HKB := Lib.hid (HVO.out.lists (k := N) (by have := HNL.out; omega) HMB.out)
  have hlb48 : lb ≤ 48 := by rw [HLb.out]; exact HKB.out.1
  have HT8 := Lib.hid (HT5.out.below HK8.out HT5.out.lt)
  have y0 : w8.cell? ⟨T, 0, none⟩ = some (.int .i64 t.first) := HT8.out.cell 0
  have y1 : w8.cell? ⟨T, 1, none⟩ = some (.int .i64 t.weeks) := HT8.out.cell 1
  have y2 : w8.cell? ⟨T, 2, none⟩ = some (.slice pt t.hols.length ct) := HT8.out.cell 2
  go_upto_region 12 with (go_at_call 44; (with_reducible refine (H44.out _ HK8.out).mono ?_); rintro e w9 ⟨rfl, hb9⟩; have HK9 := Lib.hid hb9; clear hb9)
  clear y0 y1 y2 HT8
  have HW9 := Lib.hid (HK8.out.trans (HK9.out.mono HK8.out.size))
  have HT9 := Lib.hid (HT5.out.below HW9.out HT5.out.lt)
  have y0 : w9.cell? ⟨T, 0, none⟩ = some (.int .i64 t.first) := HT9.out.cell 0
  have y1 : w9.cell? ⟨T, 1, none⟩ = some (.int .i64 t.weeks) := HT9.out.cell 1
  have y2 : w9.cell? ⟨T, 2, none⟩ = some (.slice pt t.hols.length ct) := HT9.out.cell 2
  have hm0 : 0 ≤ wk % t.weeks := Int.emod_nonneg _ (by omega)
  have hm1 : wk % t.weeks < t.weeks := Int.emod_lt_of_pos _ (by omega)
  go_upto_region 13 with (fail)
  clear y0 y1 y2 HT9
  obtain ⟨K, hK⟩ : ∃ K, K = 1 + wk % t.weeks := ⟨_, rfl⟩
  rw [← hK]
  have hK0 : 1 ≤ K := by omega
  have hK1 : K ≤ t.weeks := by omega
  clear hK hm0 hm1
  have H45 := Lib.hid (show ∀ (W : World) (u : ByteArray), Below w5.heap.size w5 W → Calls Tryz.prog 45 #[.slice pl ln cl, .string u, .int .i64 K] W fun e w' => e = .returned (.tuple #[(atVal (atS l u K)).1, .bool (atVal (atS l u K)).2]) ∧ Below W.heap.size W w' from fun W u hW => by
    have h := at45 l pl cl u K W ((HSA.out.below hW).mono hW.size) (by have := HLN.out; omega) hK0 (by omega) (fun s hs => by
      have htim := (HVO.out.each l HLM.out).2.each s hs
      have hw0 := htim.tim.w0
      have hw1 := htim.tim.w1
      have h2 : 2 ^ t.weeks.toNat ≤ 2 ^ (8 : Int).toNat := Nat.pow_le_pow_right (by omega) (by show t.weeks.toNat ≤ 8; omega)
      have h3 : (2 : Nat) ^ (8 : Int).toNat = 256 := rfl
      exact ⟨by omega, by omega⟩)
    rw [← HLN.out] at h
    exact h)
  have H46 := Lib.hid (show ∀ (W : World) (x : Int), Below w5.heap.size w5 W → t.first ≤ x → x ≤ Tt.lastT t → Calls Tryz.prog 46 #[.agg #[.int .i64 t.first, .int .i64 t.weeks, .slice pt t.hols.length ct], .int .i64 x] W fun e w' => ∃ a b : Int, e = .returned (.tuple #[.int .i64 a, .int .i64 b, .bool (!decide (x ∈ t.hols))]) ∧ (x ∉ t.hols → b = Tt.wkdV x) ∧ Below W.heap.size W w' from fun W x hW h0 h1 => by
    have h := where46 t pt ct x W (RowI.ao (lo := w2.heap.size) (ownsRow_below HV5.out hW)) (by omega) HTV.out h0 h1
    unfold trmVal at h
    exact h)
  have HEB := Lib.hid (show ∀ (i : Nat) (x : Ev × Value × Value), tb[i]? = some x → x.1 ∈ makK g t ls N from fun i x h => by rw [← HMB.out]; exact List.mem_map.2 ⟨x, List.mem_of_getElem? h, rfl⟩)
  go_wp2_with fail
  go_loopw [13] (fun iv wr => ∃ i : Nat, iv = .int .i64 i ∧ i ≤ lb ∧ Hid (Below w8.heap.size w8 wr)) (fun iv _ => lb - (intOf iv).toNat)
  case atStart => exact ⟨0, rfl, Nat.zero_le _, HK9⟩
  case round =>
    obtain ⟨j, rfl, hj, HX⟩ := hrel
    have HX5 := Lib.hid (HK8.out.trans (HX.out.mono HK8.out.size))
    have b2 : wr.cell? ⟨B, 2, none⟩ = some (.slice pb lb qb) := (HB8.out.below HX.out HB8.out.lt).cell 2
    by_cases hlt : j < lb
    rotate_left
    · skip
      have hjj : ¬ (j : Int) < (lb : Int) := by omega
      have HLW := Lib.hid (HL5.out.trans (HX5.out.mono HL5.out.size))
      go_wp2_with (go_at_call 35; (with_reducible refine (HAW.out _ HLW.out).mono ?_); rintro e we ⟨rfl, hb⟩; have HE := Lib.hid (HLW.out.trans (hb.mono HLW.out.size)); clear hb)
      go_ret
      exact ⟨rfl, HE.out⟩
    have hjj : (j : Int) < (lb : Int) := by omega
    have hj0 : (0 : Int) ≤ (j : Int) := by omega
    have hjn : ((j : Int)).toNat = j := by omega
    obtain ⟨q, hq⟩ : ∃ q, tb[j]? = some q := ⟨_, List.getElem?_eq_getElem (by have := HLb.out; omega)⟩
    obtain ⟨gb, hp, hgb⟩ : ∃ gx, pb = some ⟨gx, 0, none⟩ ∧ gx < w8.heap.size := by
      have h := HRB8.out.row
      rcases h.2 with ⟨h1, h2⟩ | ⟨gx, cap, cur, hv, _, hgb, _⟩
      · have := HLb.out; omega
      · simp only [Value.slice.injEq] at hv; exact ⟨gx, hv.1, (Array.getElem?_eq_some_iff.1 hgb).1⟩
    subst hp
    obtain ⟨E, v1, v2⟩ := q
    have hev : EvC gb (j * 13) E v1 v2 w8 := HRB8.out.ev j (E, v1, v2) hq
    obtain ⟨-, hx1, hx2⟩ := HRB8.out.ref (E, v1, v2) (List.mem_of_getElem? hq)
    obtain ⟨q1, d1, hv1⟩ := RowI.slice hx1
    obtain ⟨q2, d2, hv2⟩ := RowI.slice hx2
    simp only at hv1 hv2 hx1 hx2
    subst hv1 hv2
    have HX1 := Lib.hid hx1
    have HX2 := Lib.hid hx2
    have HEM := Lib.hid (show E ∈ makK g t ls N from HEB.out j _ hq)
    have HLI := Lib.hid (show E.days.ex.length ≤ 1000000 ∧ E.days.xt.length ≤ 1000000 from HKB.out.2 _ (List.mem_of_getElem? hq))
    have HEV := Lib.hid hev
    clear hx1 hx2 hq hev
    have e0 : wr.cell? ⟨gb, j * 13, none⟩ = some (.string E.uid) := (HX.out.cell (p := ⟨gb, j * 13, none⟩) hgb).trans HEV.out.c0
    have e1 : wr.cell? ⟨gb, j * 13 + 1, none⟩ = some (.int .i64 E.seq) := (HX.out.cell (p := ⟨gb, j * 13 + 1, none⟩) hgb).trans HEV.out.c1
    have e2 : wr.cell? ⟨gb, j * 13 + 2, none⟩ = some (.bool E.canc) := (HX.out.cell (p := ⟨gb, j * 13 + 2, none⟩) hgb).trans HEV.out.c2
    have e3 : wr.cell? ⟨gb, j * 13 + 3, none⟩ = some (.int .i64 E.days.first) := (HX.out.cell (p := ⟨gb, j * 13 + 3, none⟩) hgb).trans HEV.out.c3
    have e4 : wr.cell? ⟨gb, j * 13 + 4, none⟩ = some (.int .i64 E.days.last) := (HX.out.cell (p := ⟨gb, j * 13 + 4, none⟩) hgb).trans HEV.out.c4
    have e5 : wr.cell? ⟨gb, j * 13 + 5, none⟩ = some (.int .i64 E.days.every) := (HX.out.cell (p := ⟨gb, j * 13 + 5, none⟩) hgb).trans HEV.out.c5
    have e6 : wr.cell? ⟨gb, j * 13 + 6, none⟩ = some (.int .i64 E.days.wd) := (HX.out.cell (p := ⟨gb, j * 13 + 6, none⟩) hgb).trans HEV.out.c6
    have e7 : wr.cell? ⟨gb, j * 13 + 7, none⟩ = some (.slice q1 E.days.ex.length d1) := (HX.out.cell (p := ⟨gb, j * 13 + 7, none⟩) hgb).trans HEV.out.c7
    have e8 : wr.cell? ⟨gb, j * 13 + 8, none⟩ = some (.slice q2 E.days.xt.length d2) := (HX.out.cell (p := ⟨gb, j * 13 + 8, none⟩) hgb).trans HEV.out.c8
    have e9 : wr.cell? ⟨gb, j * 13 + 9, none⟩ = some (.int .i64 E.start) := (HX.out.cell (p := ⟨gb, j * 13 + 9, none⟩) hgb).trans HEV.out.c9
    have e10 : wr.cell? ⟨gb, j * 13 + 10, none⟩ = some (.int .i64 E.mins) := (HX.out.cell (p := ⟨gb, j * 13 + 10, none⟩) hgb).trans HEV.out.c10
    have e11 : wr.cell? ⟨gb, j * 13 + 11, none⟩ = some (.string E.summ) := (HX.out.cell (p := ⟨gb, j * 13 + 11, none⟩) hgb).trans HEV.out.c11
    have e12 : wr.cell? ⟨gb, j * 13 + 12, none⟩ = some (.string E.loc) := (HX.out.cell (p := ⟨gb, j * 13 + 12, none⟩) hgb).trans HEV.out.c12
    go_upto_region 17 with (fail)
    clear b2 e0 e1 e2 e3 e4 e5 e6 e7 e8 e9 e10 e11 e12
    obtain ⟨XB, hXB⟩ : ∃ z, z = wr.heap.size := ⟨_, rfl⟩
    obtain ⟨wx, hwx⟩ : ∃ z, z = wr.alloc (.cells #[.string E.uid, .int .i64 E.seq, .bool E.canc, .int .i64 E.days.first, .int .i64 E.days.last, .int .i64 E.days.every, .int .i64 E.days.wd, .slice q1 E.days.ex.length d1, .slice q2 E.days.xt.length d2, .int .i64 E.start, .int .i64 E.mins, .string E.summ, .string E.loc] 104) := ⟨_, rfl⟩
    have HXB := Lib.hid (show Blk XB #[.string E.uid, .int .i64 E.seq, .bool E.canc, .int .i64 E.days.first, .int .i64 E.days.last, .int .i64 E.days.every, .int .i64 E.days.wd, .slice q1 E.days.ex.length d1, .slice q2 E.days.xt.length d2, .int .i64 E.start, .int .i64 E.mins, .string E.summ, .string E.loc] 104 wx from by rw [hwx, hXB]; exact Blk.new wr _ _)
    have HXX := Lib.hid (HX.out.trans ((show Below wr.heap.size wr wx from by rw [hwx]; exact below_box wr _).mono HX.out.size))
    rw [← hwx, ← hXB]
    clear hwx hXB
    have HXX5 := Lib.hid (HK8.out.trans (HXX.out.mono HK8.out.size))
    have y0 : wx.cell? ⟨T, 0, none⟩ = some (.int .i64 t.first) := (HT5.out.below HXX5.out HT5.out.lt).cell 0
    have H47 := Lib.hid (show ∀ (W : World) (x : Int), E.canc = false → Below w8.heap.size w8 W → Calls Tryz.prog 47 #[.agg #[.int .i64 E.days.first, .int .i64 E.days.last, .int .i64 E.days.every, .int .i64 E.days.wd, .slice q1 E.days.ex.length d1, .slice q2 E.days.xt.length d2], .int .i64 x] W fun e w' => e = .returned (.bool (decide (x ∈ Tt.serDays E.days))) ∧ Below W.heap.size W w' from fun W x hc hW => by
      have hem := HEM.out
      rw [HMN.out] at hem
      have h := holds47 E.days q1 q2 d1 d2 x W (by have := HLI.out; omega) (by have := HLI.out; omega) (RowI.ao (ownsRow_below HX1.out hW)) (RowI.ao (ownsRow_below HX2.out hW)) (by have := held_len HVO.out HLL.out hem hc; omega)
      unfold serVal at h
      exact h)
    have HPL := Lib.hid (show ∀ x : Int, E.canc = false → t.first + 7 * (K - 1) ≤ x → x < t.first + 7 * K → decide (x ∈ Tt.serDays E.days) = heldB t l E.summ K x from fun x hc h0 h1 => by
      have hem := HEM.out
      rw [HMN.out] at hem
      exact held_plain HVO.out HLL.out hem hc hK0 hK1 h0 h1)
    go_upto_region 18 with (fail)
    clear y0 HX HX5 HEV
    obtain ⟨cb, hcb⟩ : ∃ cb, cb = E.canc := ⟨_, rfl⟩
    have HCB := Lib.hid hcb
    clear hcb
    have HLT := Lib.hid (show Tt.lastT t = t.first + 7 * t.weeks - 1 from rfl)
    go_loopw [15] (fun dv wy => ∃ d : Nat, dv = .int .i64 (t.first + 7 * (K - 1) + (d : Int)) ∧ d ≤ 7 ∧ Hid (Below wx.heap.size wx wy)) (fun dv _ => 8 - (intOf dv - (t.first + 7 * (K - 1))).toNat)
    case atStart => exact ⟨0, by simp, by omega, Lib.hid (Below.refl _ _)⟩
    case round =>
      obtain ⟨d, rfl, hd, HY⟩ := hrel
      have HY8 := Lib.hid (HXX.out.trans (HY.out.mono HXX.out.size))
      have HY5 := Lib.hid (HK8.out.trans (HY8.out.mono HK8.out.size))
      have y0 : wr.cell? ⟨T, 0, none⟩ = some (.int .i64 t.first) := (HT5.out.below HY5.out HT5.out.lt).cell 0
      have x2 : wr.cell? ⟨XB, 2, none⟩ = some (.bool cb) := by rw [HCB.out]; exact (HXB.out.below HY.out HXB.out.lt).cell 2
      cases cb
      rotate_left
      · skip
        go_wp2_with fail
        go_roundw
        case rel => exact ⟨j + 1, by go_num, by omega, HY8⟩
        case measure => simp [intOf]; omega
      have hcf : E.canc = false := HCB.out.symm
      have HCF := Lib.hid hcf
      clear hcf
      by_cases hd7 : d < 7
      rotate_left
      · skip
        obtain rfl : d = 7 := by omega
        have hex : ¬ t.first + 7 * (K - 1) + ((7 : Nat) : Int) < t.first + 7 * K := by omega
        have hex2 : ¬ t.first + 7 * (K - 1) + 7 < t.first + 7 * K := by omega
        go_wp2_with fail
        go_roundw
        case rel => exact ⟨j + 1, by go_num, by omega, HY8⟩
        case measure => simp [intOf]; omega
      obtain ⟨D, hD⟩ : ∃ D, D = t.first + 7 * (K - 1) + (d : Int) := ⟨_, rfl⟩
      rw [← hD]
      have hD0 : t.first + 7 * (K - 1) ≤ D := by omega
      have hD1 : D < t.first + 7 * K := by omega
      have hDd : D + 1 = t.first + 7 * (K - 1) + ((d + 1 : Nat) : Int) := by omega
      have HDD := Lib.hid hDd
      have HPD := Lib.hid (HPL.out D HCF.out hD0 hD1)
      unfold heldB at HPD
      have x11 : wr.cell? ⟨XB, 11, none⟩ = some (.string E.summ) := (HXB.out.below HY.out HXB.out.lt).cell 11
      have HA := Lib.hid (H45.out wr E.summ HY5.out)
      obtain ⟨av, hav⟩ : ∃ av, av = atS l E.summ K := ⟨_, rfl⟩
      rw [← hav] at HA HPD
      clear hav
      obtain ⟨F, hF⟩ : ∃ F, F = !decide (D ∈ t.hols) := ⟨_, rfl⟩
      rw [← hF] at HPD
      have HD46 := Lib.hid (show ∀ (W : World), Below w5.heap.size w5 W → Calls Tryz.prog 46 #[.agg #[.int .i64 t.first, .int .i64 t.weeks, .slice pt t.hols.length ct], .int .i64 D] W fun e w' => ∃ a b : Int, e = .returned (.tuple #[.int .i64 a, .int .i64 b, .bool F]) ∧ (F = true → b = Tt.wkdV D) ∧ Below W.heap.size W w' from fun W hW => by
        refine (H46.out W D hW (by omega) (by have := HLT.out; omega)).mono ?_
        rintro e w1 ⟨a, b, rfl, h1, h2⟩
        refine ⟨a, b, by rw [hF], fun hft => h1 (fun hmem => ?_), h2⟩
        rw [hft, decide_eq_true hmem] at hF; cases hF)
      clear hD hDd hF
      cases av with
      | none =>
        simp only [atVal] at HA HPD
        go_upto_region 21 with (go_at_call 45; (with_reducible refine HA.out.mono ?_); rintro e wa ⟨rfl, hba⟩; have HBa := Lib.hid hba; clear hba)
        clear y0 x2 x11
        obtain ⟨S, hS⟩ : ∃ z, z = wa.heap.size := ⟨_, rfl⟩
        obtain ⟨wb, hwb⟩ : ∃ z, z = wa.alloc (.cells #[.string ⟨#[]⟩, .int .i64 0, .int .i64 0, .int .i64 0, .int .i64 0, .string ⟨#[]⟩] 110) := ⟨_, rfl⟩
        have HSB := Lib.hid (show Blk S #[.string ⟨#[]⟩, .int .i64 0, .int .i64 0, .int .i64 0, .int .i64 0, .string ⟨#[]⟩] 110 wb from by rw [hwb, hS]; exact Blk.new wa _ _)
        have HBb := Lib.hid (show Below wr.heap.size wr wb from by rw [hwb]; exact HBa.out.trans ((below_box wa _).mono HBa.out.size))
        rw [← hwb, ← hS]
        clear hwb hS
        have HYb := Lib.hid (HY.out.trans (HBb.out.mono HY.out.size))
        have HW5b := Lib.hid (HK8.out.trans ((HXX.out.trans (HYb.out.mono HXX.out.size)).mono HK8.out.size))
        have HTb := Lib.hid (HT5.out.below HW5b.out HT5.out.lt)
        have y0 : wb.cell? ⟨T, 0, none⟩ = some (.int .i64 t.first) := HTb.out.cell 0
        have y1 : wb.cell? ⟨T, 1, none⟩ = some (.int .i64 t.weeks) := HTb.out.cell 1
        have y2 : wb.cell? ⟨T, 2, none⟩ = some (.slice pt t.hols.length ct) := HTb.out.cell 2
        go_upto_region 22 with (go_at_call 46; (with_reducible refine (HD46.out wb HW5b.out).mono ?_); rintro e wc ⟨za, zb, rfl, hzw, hbc⟩; have HZW := Lib.hid hzw; have HBc := Lib.hid hbc; clear hzw hbc)
        clear y0 y1 y2
        have HYc := Lib.hid (HYb.out.trans (HBc.out.mono HYb.out.size))
        have HW8c := Lib.hid (HXX.out.trans (HYc.out.mono HXX.out.size))
        have HXc := Lib.hid (HXB.out.below HYc.out HXB.out.lt)
        have x3 : wc.cell? ⟨XB, 3, none⟩ = some (.int .i64 E.days.first) := HXc.out.cell 3
        have x4 : wc.cell? ⟨XB, 4, none⟩ = some (.int .i64 E.days.last) := HXc.out.cell 4
        have x5 : wc.cell? ⟨XB, 5, none⟩ = some (.int .i64 E.days.every) := HXc.out.cell 5
        have x6 : wc.cell? ⟨XB, 6, none⟩ = some (.int .i64 E.days.wd) := HXc.out.cell 6
        have x7 : wc.cell? ⟨XB, 7, none⟩ = some (.slice q1 E.days.ex.length d1) := HXc.out.cell 7
        have x8 : wc.cell? ⟨XB, 8, none⟩ = some (.slice q2 E.days.xt.length d2) := HXc.out.cell 8
        have HH := Lib.hid (H47.out wc D HCF.out HW8c.out)
        rw [HPD.out] at HH
        go_wp2_with (go_at_call 47; (with_reducible refine HH.out.mono ?_); rintro e wd ⟨rfl, hbd⟩; have HBd := Lib.hid hbd; clear hbd)
        have HYd := Lib.hid (HYc.out.trans (HBd.out.mono HYc.out.size))
        go_roundw
        case rel => exact ⟨d + 1, by first | (rw [HDD.out]) | go_num, by omega, HYd⟩
        case measure => simp [intOf]; have := HDD.out; omega
      | some s =>
        simp only [atVal, sesVal, sesCells] at HA HPD
        go_upto_region 21 with (go_at_call 45; (with_reducible refine HA.out.mono ?_); rintro e wa ⟨rfl, hba⟩; have HBa := Lib.hid hba; clear hba)
        clear y0 x2 x11
        obtain ⟨S, hS⟩ : ∃ z, z = wa.heap.size := ⟨_, rfl⟩
        obtain ⟨wb, hwb⟩ : ∃ z, z = wa.alloc (.cells #[.string s.cls, .int .i64 s.tim.weeks, .int .i64 s.tim.day, .int .i64 s.tim.start, .int .i64 s.tim.len, .string s.room] 110) := ⟨_, rfl⟩
        have HSB := Lib.hid (show Blk S #[.string s.cls, .int .i64 s.tim.weeks, .int .i64 s.tim.day, .int .i64 s.tim.start, .int .i64 s.tim.len, .string s.room] 110 wb from by rw [hwb, hS]; exact Blk.new wa _ _)
        have HBb := Lib.hid (show Below wr.heap.size wr wb from by rw [hwb]; exact HBa.out.trans ((below_box wa _).mono HBa.out.size))
        rw [← hwb, ← hS]
        clear hwb hS
        have HYb := Lib.hid (HY.out.trans (HBb.out.mono HY.out.size))
        have HW5b := Lib.hid (HK8.out.trans ((HXX.out.trans (HYb.out.mono HXX.out.size)).mono HK8.out.size))
        have HTb := Lib.hid (HT5.out.below HW5b.out HT5.out.lt)
        have y0 : wb.cell? ⟨T, 0, none⟩ = some (.int .i64 t.first) := HTb.out.cell 0
        have y1 : wb.cell? ⟨T, 1, none⟩ = some (.int .i64 t.weeks) := HTb.out.cell 1
        have y2 : wb.cell? ⟨T, 2, none⟩ = some (.slice pt t.hols.length ct) := HTb.out.cell 2
        go_upto_region 22 with (go_at_call 46; (with_reducible refine (HD46.out wb HW5b.out).mono ?_); rintro e wc ⟨za, zb, rfl, hzw, hbc⟩; have HZW := Lib.hid hzw; have HBc := Lib.hid hbc; clear hzw hbc)
        clear y0 y1 y2
        have HYc := Lib.hid (HYb.out.trans (HBc.out.mono HYb.out.size))
        have HW8c := Lib.hid (HXX.out.trans (HYc.out.mono HXX.out.size))
        have HXc := Lib.hid (HXB.out.below HYc.out HXB.out.lt)
        have x3 : wc.cell? ⟨XB, 3, none⟩ = some (.int .i64 E.days.first) := HXc.out.cell 3
        have x4 : wc.cell? ⟨XB, 4, none⟩ = some (.int .i64 E.days.last) := HXc.out.cell 4
        have x5 : wc.cell? ⟨XB, 5, none⟩ = some (.int .i64 E.days.every) := HXc.out.cell 5
        have x6 : wc.cell? ⟨XB, 6, none⟩ = some (.int .i64 E.days.wd) := HXc.out.cell 6
        have x7 : wc.cell? ⟨XB, 7, none⟩ = some (.slice q1 E.days.ex.length d1) := HXc.out.cell 7
        have x8 : wc.cell? ⟨XB, 8, none⟩ = some (.slice q2 E.days.xt.length d2) := HXc.out.cell 8
        have HH := Lib.hid (H47.out wc D HCF.out HW8c.out)
        rw [HPD.out] at HH
        have s2 : wc.cell? ⟨S, 2, none⟩ = some (.int .i64 s.tim.day) := (HSB.out.below HBc.out HSB.out.lt).cell 2
        cases F
        · skip
          simp only [Bool.false_and] at HH
          go_wp2_with (go_at_call 47; (with_reducible refine HH.out.mono ?_); rintro e wd ⟨rfl, hbd⟩; have HBd := Lib.hid hbd; clear hbd)
          have HYd := Lib.hid (HYc.out.trans (HBd.out.mono HYc.out.size))
          go_roundw
          case rel => exact ⟨d + 1, by first | (rw [HDD.out]) | go_num, by omega, HYd⟩
          case measure => simp [intOf]; have := HDD.out; omega
        have hzb : zb = Tt.wkdV D := HZW.out rfl
        simp only [Bool.true_and] at HH
        rw [← hzb] at HH
        clear hzb
        by_cases hdd : s.tim.day = zb
        · skip
          rw [decide_eq_true hdd] at HH
          have hdb : (s.tim.day == zb) = true := by simpa using hdd
          clear hdd
          go_wp2_with (go_at_call 47; (with_reducible refine HH.out.mono ?_); rintro e wd ⟨rfl, hbd⟩; have HBd := Lib.hid hbd; clear hbd)
          have HYd := Lib.hid (HYc.out.trans (HBd.out.mono HYc.out.size))
          go_roundw
          case rel => exact ⟨d + 1, by first | (rw [HDD.out]) | go_num, by omega, HYd⟩
          case measure => simp [intOf]; have := HDD.out; omega
        · skip
          rw [decide_eq_false hdd] at HH
          have hdb : (s.tim.day == zb) = false := by simpa using hdd
          clear hdd
          go_wp2_with (go_at_call 47; (with_reducible refine HH.out.mono ?_); rintro e wd ⟨rfl, hbd⟩; have HBd := Lib.hid hbd; clear hbd)
          have HYd := Lib.hid (HYc.out.trans (HBd.out.mono HYc.out.size))
          go_roundw
          case rel => exact ⟨d + 1, by first | (rw [HDD.out]) | go_num, by omega, HYd⟩
          case measure => simp [intOf]; have := HDD.out; omega
end Go.Proofs.YtcomifbfldoeiaaGreatDoor
