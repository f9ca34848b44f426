/- FeedSequences: the walk of the law. -/
import Derived.Test.YtcomifbfldoeiaaGreatDoorSeqQ
import Derived.Test.YtcomifbfldoeiaaGreatDoorMak
import Derived.Test.YtcomifbfldoeiaaGreatDoorGenT2
import Derived.Test.YtcomifbfldoeiaaGreatDoorPk32
import Derived.Test.YtcomifbfldoeiaaGreatDoorPk13
import Derived.Test.YtcomifbfldoeiaaGreatDoorEvO
namespace Go.Proofs.YtcomifbfldoeiaaGreatDoor
open Go.RowKit

set_option maxHeartbeats 32000000 in
set_option maxRecDepth 100000 in
theorem lawQ (ao : Option Addr) (len cap : Nat) (w : World) (mx : Int) (hn : Nums w ao len) (hm : w.cell? ⟨0, 0, none⟩ = some (.int .i64 mx)) (hTz : Tz w) (hP : Pow w) (h6 : 6 < w.heap.size) : Calls Tryz.prog 8 #[.slice ao len cap] w fun e w' => e = .returned (.bool true) ∧ Below w.heap.size w w' := by
  have HN := Lib.hid hn
  have HSix := Lib.hid h6
  have HAW : Hid (∀ W, Below w.heap.size w W → Calls Tryz.prog 35 #[] W fun e w' => e = .returned (.bool true) ∧ Below W.heap.size W w') := Lib.hid (fun W hW => awake_any W mx ((hW.cell (p := ⟨0, 0, none⟩) (show 0 < w.heap.size by omega)).trans hm) (by have := hW.size; omega))
  have HPow : Hid (∀ W, Below w.heap.size w W → Pow W) := Lib.hid (fun W hW => hP.below h6 hW)
  have HTZ : Hid (∀ W, Below w.heap.size w W → Tz W) := Lib.hid (fun W hW => hTz.below h6 hW)
  clear hn hP h6 hTz hm
  by_cases hlen : (len : Int) ≤ 400
  rotate_left
  · have hd1 : decide ((len : Int) ≤ 400) = false := decide_eq_false hlen
    go_enter Tryz.func8, Tryz.ntmps8
    go_wp2_with (go_at_call 10; (with_reducible refine (light_any ao len cap _).mono ?_); rintro e w3 ⟨rfl, hw3⟩; rw [hw3, hd1]; clear hw3 w3)
    refine (HAW.out _ (Below.refl w.heap.size w)).mono ?_
    rintro e we ⟨rfl, hb⟩
    have HE := Lib.hid (((Below.refl w.heap.size w)).trans (hb.mono ((Below.refl w.heap.size w)).size))
    clear hb
    go_wp2_with fail
    go_ret
    exact ⟨rfl, HE.out⟩
  have hd1 : decide ((len : Int) ≤ 400) = true := decide_eq_true hlen
  go_enter Tryz.func8, Tryz.ntmps8
  go_wp2_with (go_at_call 10; (with_reducible refine (light_any ao len cap _).mono ?_); rintro e w3 ⟨rfl, hw3⟩; rw [hw3, hd1]; clear hw3 w3)
  have HLEN := Lib.hid hlen
  clear hlen hd1
  refine (roll_any ao len cap w (by have := HLEN.out; omega) HN.out).mono ?_
  rintro e w1 ⟨rfl, hd, hb, hsz⟩
  obtain ⟨b, hbb⟩ : ∃ b, b = w.heap.size := ⟨_, rfl⟩
  rw [← hbb] at hd hsz ⊢
  have HL1 := Lib.hid hb
  have HD1 := Lib.hid hd
  have hwb : w.heap.size ≤ b := by omega
  clear hd hb hbb hsz
  go_wp2_with fail
  refine (grid60v b w1 HD1.out).mono ?_
  rintro e w2 ⟨g, rfl, hgv, g1, g2, g3, g4, hs⟩
  have HGV := Lib.hid hgv
  have HL2 := Lib.hid (HL1.out.trans (hs.but.below hwb HL1.out.size))
  have HD2 := Lib.hid hs.dice
  have hbw : b < w2.heap.size := hs.dice.lt
  clear hgv hs HD1 HL1
  unfold grdVal
  go_wp2_with fail
  refine (term61v b w2 HD2.out).mono ?_
  rintro e w3 ⟨t, v, rfl, hv, hvl, t1, t2, t3, t4, htv, hs⟩
  obtain ⟨pt, ct, hpv⟩ := RowI.slice hv
  subst hpv
  have HTV := Lib.hid htv
  have HV3 := Lib.hid hv
  have HL3 := Lib.hid (HL2.out.trans (hs.but.below hwb HL2.out.size))
  have HD3 := Lib.hid hs.dice
  clear htv hv hs HD2 HL2
  unfold trmVal
  obtain ⟨G, hG⟩ : ∃ x, x = w3.heap.size := ⟨_, rfl⟩
  obtain ⟨T, hT⟩ : ∃ x, x = w3.heap.size + 1 := ⟨_, rfl⟩
  obtain ⟨w4, hw4⟩ : ∃ X, X = (w3.alloc (.cells #[.int .i64 g.days, .int .i64 g.slots, .int .i64 g.begin_, .int .i64 g.mins] 91)).alloc (.cells #[.int .i64 t.first, .int .i64 t.weeks, .slice pt t.hols.length ct] 94) := ⟨_, rfl⟩
  have HK4 := Lib.hid (show Below w3.heap.size w3 w4 from by rw [hw4]; exact (below_box w3 _).trans ((below_box _ _).mono (by simp)))
  have HG4 := Lib.hid (show Blk G #[.int .i64 g.days, .int .i64 g.slots, .int .i64 g.begin_, .int .i64 g.mins] 91 w4 from by rw [hw4, hG]; exact (Blk.new w3 _ _).alloc _)
  have HT4 := Lib.hid (show Blk T #[.int .i64 t.first, .int .i64 t.weeks, .slice pt t.hols.length ct] 94 w4 from by rw [hw4, hT]; exact Blk.new' _ _ _ (by simp))
  have HL4 := Lib.hid (HL3.out.trans (HK4.out.mono HL3.out.size))
  have HD4 := Lib.hid (HD3.out.kept HD3.out.lt HK4.out)
  have HV4 := Lib.hid (show RowI w2.heap.size w4 (.slice pt t.hols.length ct) t.hols from ownsRow_below HV3.out HK4.out)
  have hGb : G ≠ b := by have := HD3.out.lt; omega
  have hTb : T ≠ b := by have := HD3.out.lt; omega
  go_upto_region 5 with (fail)
  rw [← hw4, ← hT, ← hG]
  clear hw4 hT hG HK4 HV3 HD3 HL3
  have x0 : w4.cell? ⟨G, 0, none⟩ = some (.int .i64 g.days) := HG4.out.cell 0
  have x1 : w4.cell? ⟨G, 1, none⟩ = some (.int .i64 g.slots) := HG4.out.cell 1
  have x2 : w4.cell? ⟨G, 2, none⟩ = some (.int .i64 g.begin_) := HG4.out.cell 2
  have x3 : w4.cell? ⟨G, 3, none⟩ = some (.int .i64 g.mins) := HG4.out.cell 3
  have y0 : w4.cell? ⟨T, 0, none⟩ = some (.int .i64 t.first) := HT4.out.cell 0
  have y1 : w4.cell? ⟨T, 1, none⟩ = some (.int .i64 t.weeks) := HT4.out.cell 1
  have y2 : w4.cell? ⟨T, 2, none⟩ = some (.slice pt t.hols.length ct) := HT4.out.cell 2
  have HST := Lib.hid (states62v b g t pt ct w4 HD4.out g1 g2 g3 g4 t3 t4)
  unfold grdVal trmVal at HST
  go_wp2_with fail
  clear x0 x1 x2 x3 y0 y1 y2
  refine HST.out.mono ?_
  clear HST
  rintro e w5 ⟨u, l2, rfl, ho, hl4, hle, hs⟩
  obtain ⟨pu, cu, hu⟩ := ownsRow_len ho.row
  subst hu
  have HO5 := Lib.hid ho
  have HL5 := Lib.hid (HL4.out.trans (hs.but.below hwb HL4.out.size))
  have HG5 := Lib.hid (HG4.out.but hs.but hGb)
  have HT5 := Lib.hid (HT4.out.but hs.but hTb)
  have HV5 := Lib.hid (show RowI w2.heap.size w5 (.slice pt t.hols.length ct) t.hols from row_but HV4.out hbw hs.but)
  obtain ⟨ls, hls⟩ : ∃ ls, ls = l2.map (·.2) := ⟨_, rfl⟩
  have HLA := Lib.hid (show LstAt w5.heap.size w5 pu ls from by rw [hls]; exact RowSS.lst ho (fun q hq => by have := (hle q hq).1; omega))
  have HVO := Lib.hid (show VersOk g t ls from ⟨HGV.out, HTV.out, by rw [hls, List.length_map]; exact hl4, fun l hl => by rw [hls] at hl; obtain ⟨q, hq, rfl⟩ := List.mem_map.1 hl; exact hle q hq⟩)
  obtain ⟨N, hN⟩ : ∃ N, N = ls.length := ⟨_, rfl⟩
  have hl2 : l2.length = N := by rw [hN, hls, List.length_map]
  rw [hl2] at hl4 ⊢
  have HNL := Lib.hid hN
  have HFM : Hid (pu = none ∧ N = 0 ∧ cu = 0 ∨ ∃ gp, pu = some ⟨gp, 0, none⟩ ∧ N ≤ cu ∧ cu ≤ maxLen) := Lib.hid (by
    have hr := HO5.out.row
    rw [hl2] at hr
    rcases hr.2 with ⟨h1, h2⟩ | ⟨gp, cap, cur, h1, _, _, h3, h4, _⟩
    · simp only [Value.slice.injEq] at h1; exact .inl ⟨h1.1, h2, h1.2.2⟩
    · simp only [Value.slice.injEq] at h1; exact .inr ⟨gp, h1.1, by omega, by omega⟩)
  clear ho hs hle hls hN hl2 HO5 HG4 HT4 HV4 HL4 HD4 hGb hTb
  by_cases hNz : N = 0
  · have hz : ((N : Int) == 0) = true := by simpa using hNz
    clear hNz
    go_wp2_with fail
    refine (HAW.out _ HL5.out).mono ?_
    rintro e we ⟨rfl, hb⟩
    have HE := Lib.hid ((HL5.out).trans (hb.mono (HL5.out).size))
    clear hb
    go_wp2_with fail
    go_ret
    exact ⟨rfl, HE.out⟩
  have hz : ((N : Int) == 0) = false := by simpa using hNz
  obtain ⟨M, hM⟩ : ∃ M, N = M + 1 := ⟨N - 1, by omega⟩
  have HMN := Lib.hid hM
  have hms : (N : Int) - 1 = (M : Int) := by omega
  have hwm : IntKind.i64.wrap ((N : Int) - 1) = (M : Int) := by rw [IntKind.wrap_i64]; omega
  have hwm0 : IntKind.i64.wrap (M : Int) = (M : Int) := by rw [IntKind.wrap_i64]; omega
  have hM0 : (0 : Int) ≤ (M : Int) := by omega
  have hMn : ((M : Int)).toNat = M := by omega
  have hMc : (M : Int) ≤ (cu : Int) := by rcases HFM.out with ⟨_, h2, _⟩ | ⟨_, _, h2, _⟩ <;> omega
  have hMN : (M : Int) < (N : Int) := by omega
  have HNZ := Lib.hid hNz
  clear hNz hM
  have HCM := Lib.hid (show ∀ k : Nat, k ≤ N → ∀ W, Below w5.heap.size w5 W → Calls Tryz.prog 39 #[.agg #[.int .i64 g.days, .int .i64 g.slots, .int .i64 g.begin_, .int .i64 g.mins], .agg #[.int .i64 t.first, .int .i64 t.weeks, .slice pt t.hols.length ct], .string ⟨#[120]⟩, .slice pu k cu] W fun e w' => ∃ (p : Option Addr) (kq : Nat) (ts : List (Ev × Value × Value)), e = .returned (.tuple #[.agg #[.string ⟨#[120]⟩, .int .i64 k, .slice p ts.length kq], .int .i64 0]) ∧ RowT W.heap.size w' (.slice p ts.length kq) ts ∧ ts.map (·.1) = makK g t ls k ∧ Below W.heap.size W w' from fun k hk W hWW => by
    have hLW := HL5.out.trans (hWW.mono HL5.out.size)
    have hi2 : Ints W.heap.size W pt t.hols := RowI.ao (lo := w2.heap.size) (ownsRow_below HV5.out hWW)
    have hlen : (ls.take k).length = k := by rw [List.length_take]; have := HNL.out; omega
    have h := mak63 g t pt ct ⟨#[120]⟩ (ls.take k) pu cu W hi2 (by omega) (((HLA.out.below hWW).mono hWW.size).take k) (by omega) (HTZ.out W hLW) (HPow.out W hLW) (Nat.lt_of_lt_of_le HSix.out hLW.size)
    rw [hlen] at h
    refine h.mono ?_
    rintro e w' ⟨⟨v, ts, rfl, hr, he⟩, hb⟩
    obtain ⟨p, q, hq, -, -⟩ := hr.seg
    subst hq
    have hf := HVO.out.feed (k := k) (by have := HNL.out; omega)
    refine ⟨p, q, ts, ?_, hr, ?_, hb⟩
    · rw [HVO.out.code k, hf]
    · rw [he, hf])
  go_upto_region 9 with (fail)
  refine wp_region_tail 12 (by kernel_rfl) (fun listed a x => ∃ (l0 l1 l2 l3 l4 l5 l6 l7 l8 l9 l10 l11 : Bool) (t8 t42 t43 t44 t45 t46 t47 t48 t49 t50 t51 : Value), listed = #[l0, l1, l2, l3, l4, l5, l6, l7, l8, l9, l10, l11, false] ∧ a = ⟨(.slice ao len cap :: undef :: .bool false :: .pointer (some ⟨b, 0, none⟩) :: .pointer (some ⟨G, 0, none⟩) :: .pointer (some ⟨T, 0, none⟩) :: .slice pu N cu :: .int .i64 (N : Int) :: t8 :: undef :: undef :: undef :: undef :: undef :: undef :: undef :: undef :: undef :: undef :: undef :: undef :: undef :: undef :: .slice ao len cap :: .bool true :: .bool false :: undef :: .slice ao len cap :: .pointer (some ⟨b, 0, none⟩) :: .pointer (some ⟨b, 0, none⟩) :: .agg #[.int .i64 g.days, .int .i64 g.slots, .int .i64 g.begin_, .int .i64 g.mins] :: .pointer (some ⟨b, 0, none⟩) :: .agg #[.int .i64 t.first, .int .i64 t.weeks, .slice pt t.hols.length ct] :: .pointer (some ⟨b, 0, none⟩) :: .agg #[.int .i64 g.days, .int .i64 g.slots, .int .i64 g.begin_, .int .i64 g.mins] :: .agg #[.int .i64 t.first, .int .i64 t.weeks, .slice pt t.hols.length ct] :: .slice pu N cu :: .slice pu N cu :: .int .i64 (N : Int) :: .int .i64 (N : Int) :: .bool false :: undef :: t42 :: t43 :: t44 :: t45 :: t46 :: t47 :: t48 :: t49 :: t50 :: t51 :: undef :: undef :: undef :: undef :: undef :: undef :: undef :: undef :: undef :: undef :: undef :: undef :: undef :: undef :: undef :: undef :: undef :: undef :: undef :: undef :: undef :: undef :: undef :: undef :: undef :: undef :: undef :: undef :: undef :: undef :: undef :: undef :: undef :: undef :: undef :: undef :: undef :: undef :: undef :: undef :: undef :: undef :: undef :: undef :: undef :: undef :: undef :: undef :: undef :: undef :: undef :: undef :: undef :: undef :: undef :: undef :: undef :: undef :: undef :: undef :: undef :: undef :: undef :: undef :: undef :: undef :: undef :: undef :: undef :: undef :: undef :: undef :: undef :: undef :: undef :: undef :: undef :: undef :: undef :: undef :: undef :: undef :: undef :: undef :: undef :: undef :: undef :: undef :: undef :: undef :: undef :: undef :: undef :: undef :: undef :: undef :: undef :: undef :: undef :: undef :: undef :: undef :: undef :: undef :: undef :: undef :: undef :: undef :: undef :: undef :: undef :: undef :: undef :: undef :: undef :: undef :: undef :: undef :: undef :: undef :: undef :: undef :: undef :: undef :: undef :: undef :: undef :: undef :: undef :: undef :: undef :: undef :: undef :: undef :: undef :: undef :: undef :: undef :: undef :: undef :: undef :: undef :: undef :: undef :: undef :: undef :: undef :: undef :: undef :: undef :: undef :: undef :: undef :: undef :: undef :: undef :: undef :: undef :: undef :: undef :: undef :: undef :: undef :: undef :: undef :: undef :: undef :: undef :: undef :: undef :: undef :: undef :: undef :: undef :: []).toArray, []⟩ ∧ Hid (l0 = true → t43 = .agg #[.int .i64 g.days, .int .i64 g.slots, .int .i64 g.begin_, .int .i64 g.mins]) ∧ Hid (l1 = true → t44 = .agg #[.int .i64 t.first, .int .i64 t.weeks, .slice pt t.hols.length ct]) ∧ Hid (l2 = true → t45 = .slice pu N cu) ∧ Hid (l3 = true → t46 = .int .i64 (N : Int)) ∧ Hid (l4 = true → t47 = .int .i64 (M : Int)) ∧ Hid (l5 = true → t48 = .slice pu M cu) ∧ Hid (l6 = true → l7 = false → ∃ (p : Option Addr) (kq : Nat) (ts : List (Ev × Value × Value)), t49 = .tuple #[.agg #[.string ⟨#[120]⟩, .int .i64 M, .slice p ts.length kq], .int .i64 0] ∧ RowT w5.heap.size x (.slice p ts.length kq) ts ∧ Hid (ts.map (·.1) = makK g t ls M)) ∧ Hid (l7 = true → ∃ (p : Option Addr) (kq : Nat) (ts : List (Ev × Value × Value)), t42 = .tuple #[.agg #[.string ⟨#[120]⟩, .int .i64 M, .slice p ts.length kq], .int .i64 0] ∧ RowT w5.heap.size x (.slice p ts.length kq) ts ∧ Hid (ts.map (·.1) = makK g t ls M)) ∧ Hid (l8 = true → l11 = false → ∃ (p : Option Addr) (kq : Nat) (ts : List (Ev × Value × Value)), t50 = .agg #[.string ⟨#[120]⟩, .int .i64 M, .slice p ts.length kq] ∧ RowT w5.heap.size x (.slice p ts.length kq) ts ∧ Hid (ts.map (·.1) = makK g t ls M)) ∧ Hid (l9 = true → t51 = .int .i64 0) ∧ Hid (l10 = true → l11 = false → ∃ (S : Nat), t8 = .pointer (some ⟨S, 0, none⟩) ∧ w5.heap.size ≤ S ∧ Blk S #[.string ⟨#[]⟩, .int .i64 0, .slice none 0 0] 49 x) ∧ Hid (l11 = true → ∃ (S : Nat) (p : Option Addr) (kq : Nat) (ts : List (Ev × Value × Value)), t8 = .pointer (some ⟨S, 0, none⟩) ∧ w5.heap.size ≤ S ∧ Blk S #[.string ⟨#[120]⟩, .int .i64 M, .slice p ts.length kq] 49 x ∧ RowT w5.heap.size x (.slice p ts.length kq) ts ∧ Hid (ts.map (·.1) = makK g t ls M) ∧ l10 = true) ∧ Hid (Made w5 x)) (by decide) (by kernel_rfl) (by kernel_rfl) ?_ ?_ ?_ ?_
  · exact ⟨false, false, false, false, false, false, false, false, false, false, false, false, _, _, _, _, _, _, _, _, _, _, _, rfl, rfl, Lib.hid (fun h => by cases h), Lib.hid (fun h => by cases h), Lib.hid (fun h => by cases h), Lib.hid (fun h => by cases h), Lib.hid (fun h => by cases h), Lib.hid (fun h => by cases h), Lib.hid (fun h => by cases h), Lib.hid (fun h => by cases h), Lib.hid (fun h => by cases h), Lib.hid (fun h => by cases h), Lib.hid (fun h => by cases h), Lib.hid (fun h => by cases h), Lib.hid (Made.start w5)⟩
  · intro listed a x hj
    obtain ⟨l0, hj⟩ := hj
    obtain ⟨l1, hj⟩ := hj
    obtain ⟨l2, hj⟩ := hj
    obtain ⟨l3, hj⟩ := hj
    obtain ⟨l4, hj⟩ := hj
    obtain ⟨l5, hj⟩ := hj
    obtain ⟨l6, hj⟩ := hj
    obtain ⟨l7, hj⟩ := hj
    obtain ⟨l8, hj⟩ := hj
    obtain ⟨l9, hj⟩ := hj
    obtain ⟨l10, hj⟩ := hj
    obtain ⟨l11, hj⟩ := hj
    obtain ⟨t8, hj⟩ := hj
    obtain ⟨t42, hj⟩ := hj
    obtain ⟨t43, hj⟩ := hj
    obtain ⟨t44, hj⟩ := hj
    obtain ⟨t45, hj⟩ := hj
    obtain ⟨t46, hj⟩ := hj
    obtain ⟨t47, hj⟩ := hj
    obtain ⟨t48, hj⟩ := hj
    obtain ⟨t49, hj⟩ := hj
    obtain ⟨t50, hj⟩ := hj
    obtain ⟨t51, hj⟩ := hj
    obtain ⟨h1, -⟩ := hj
    subst h1
    exact ⟨rfl, fun k h1 h2 => by (have h2 : k < 13 := h2); obtain rfl : k = 12 := (by omega); rfl⟩
  · intro listed a x i hj hlt hu haf
    obtain ⟨l0, hj⟩ := hj
    obtain ⟨l1, hj⟩ := hj
    obtain ⟨l2, hj⟩ := hj
    obtain ⟨l3, hj⟩ := hj
    obtain ⟨l4, hj⟩ := hj
    obtain ⟨l5, hj⟩ := hj
    obtain ⟨l6, hj⟩ := hj
    obtain ⟨l7, hj⟩ := hj
    obtain ⟨l8, hj⟩ := hj
    obtain ⟨l9, hj⟩ := hj
    obtain ⟨l10, hj⟩ := hj
    obtain ⟨l11, hj⟩ := hj
    obtain ⟨t8, hj⟩ := hj
    obtain ⟨t42, hj⟩ := hj
    obtain ⟨t43, hj⟩ := hj
    obtain ⟨t44, hj⟩ := hj
    obtain ⟨t45, hj⟩ := hj
    obtain ⟨t46, hj⟩ := hj
    obtain ⟨t47, hj⟩ := hj
    obtain ⟨t48, hj⟩ := hj
    obtain ⟨t49, hj⟩ := hj
    obtain ⟨t50, hj⟩ := hj
    obtain ⟨t51, hj⟩ := hj
    obtain ⟨hl_, hj⟩ := hj
    obtain ⟨ha_, hj⟩ := hj
    obtain ⟨H0, hj⟩ := hj
    obtain ⟨H1, hj⟩ := hj
    obtain ⟨H2, hj⟩ := hj
    obtain ⟨H3, hj⟩ := hj
    obtain ⟨H4, hj⟩ := hj
    obtain ⟨H5, hj⟩ := hj
    obtain ⟨H6, hj⟩ := hj
    obtain ⟨H7, hj⟩ := hj
    obtain ⟨H8, hj⟩ := hj
    obtain ⟨H9, hj⟩ := hj
    obtain ⟨H10, hj⟩ := hj
    obtain ⟨H11, hj⟩ := hj
    have HS := hj
    clear hj
    subst hl_
    subst ha_
    rcases (show ∀ i : Nat, i < 12 → (i = 0 ∨ i = 1 ∨ i = 2 ∨ i = 3 ∨ i = 4 ∨ i = 5 ∨ i = 6 ∨ i = 7 ∨ i = 8 ∨ i = 9 ∨ i = 10 ∨ i = 11) by decide) i hlt with rfl | rfl | rfl | rfl | rfl | rfl | rfl | rfl | rfl | rfl | rfl | rfl
    · have haf := haf _ rfl
      clear haf
      have hu : l0 = false := hu
      have hcG0 : x.cell? ⟨G, 0, none⟩ = some (.int .i64 g.days) := (HG5.out.below HS.out.below HG5.out.lt).cell 0
      have hcG1 : x.cell? ⟨G, 1, none⟩ = some (.int .i64 g.slots) := (HG5.out.below HS.out.below HG5.out.lt).cell 1
      have hcG2 : x.cell? ⟨G, 2, none⟩ = some (.int .i64 g.begin_) := (HG5.out.below HS.out.below HG5.out.lt).cell 2
      have hcG3 : x.cell? ⟨G, 3, none⟩ = some (.int .i64 g.mins) := (HG5.out.below HS.out.below HG5.out.lt).cell 3
      refine wpOp_of_list_any rfl fun QQ hQ => ?_
      have hQQ := Lib.hid hQ
      clear hQ
      simp only [List.getElem_toArray, List.getElem_cons_zero]
      go_wp2_with fail
      exact hQQ.out _ _ ⟨true, l1, l2, l3, l4, l5, l6, l7, l8, l9, l10, l11, _, _, _, _, _, _, _, _, _, _, _, rfl, rfl, Lib.hid (fun _ => rfl), H1, H2, H3, H4, H5, H6, H7, H8, H9, H10, H11, HS⟩
    · have haf := haf _ rfl
      clear haf
      have hu : l1 = false := hu
      have hcT0 : x.cell? ⟨T, 0, none⟩ = some (.int .i64 t.first) := (HT5.out.below HS.out.below HT5.out.lt).cell 0
      have hcT1 : x.cell? ⟨T, 1, none⟩ = some (.int .i64 t.weeks) := (HT5.out.below HS.out.below HT5.out.lt).cell 1
      have hcT2 : x.cell? ⟨T, 2, none⟩ = some (.slice pt t.hols.length ct) := (HT5.out.below HS.out.below HT5.out.lt).cell 2
      refine wpOp_of_list_any rfl fun QQ hQ => ?_
      have hQQ := Lib.hid hQ
      clear hQ
      simp only [List.getElem_toArray, List.getElem_cons_zero, List.getElem_cons_succ]
      go_wp2_with fail
      exact hQQ.out _ _ ⟨l0, true, l2, l3, l4, l5, l6, l7, l8, l9, l10, l11, _, _, _, _, _, _, _, _, _, _, _, rfl, rfl, H0, Lib.hid (fun _ => rfl), H2, H3, H4, H5, H6, H7, H8, H9, H10, H11, HS⟩
    · have haf := haf _ rfl
      clear haf
      have hu : l2 = false := hu
      refine wpOp_of_list_any rfl fun QQ hQ => ?_
      have hQQ := Lib.hid hQ
      clear hQ
      simp only [List.getElem_toArray, List.getElem_cons_zero, List.getElem_cons_succ]
      go_wp2_with fail
      exact hQQ.out _ _ ⟨l0, l1, true, l3, l4, l5, l6, l7, l8, l9, l10, l11, _, _, _, _, _, _, _, _, _, _, _, rfl, rfl, H0, H1, Lib.hid (fun _ => rfl), H3, H4, H5, H6, H7, H8, H9, H10, H11, HS⟩
    · have haf := haf _ rfl
      clear haf
      have hu : l3 = false := hu
      refine wpOp_of_list_any rfl fun QQ hQ => ?_
      have hQQ := Lib.hid hQ
      clear hQ
      simp only [List.getElem_toArray, List.getElem_cons_zero, List.getElem_cons_succ]
      go_wp2_with fail
      exact hQQ.out _ _ ⟨l0, l1, l2, true, l4, l5, l6, l7, l8, l9, l10, l11, _, _, _, _, _, _, _, _, _, _, _, rfl, rfl, H0, H1, H2, Lib.hid (fun _ => rfl), H4, H5, H6, H7, H8, H9, H10, H11, HS⟩
    · have haf := haf _ rfl
      have q3 : l3 = true := haf ⟨3, Go.Ground.data⟩ (by simp) rfl
      clear haf
      have hu : l4 = false := hu
      have e3 := (H3.out q3)
      subst e3
      clear H3
      refine wpOp_of_list_any rfl fun QQ hQ => ?_
      have hQQ := Lib.hid hQ
      clear hQ
      simp only [List.getElem_toArray, List.getElem_cons_zero, List.getElem_cons_succ]
      go_wp2_with fail
      exact hQQ.out _ _ ⟨l0, l1, l2, l3, true, l5, l6, l7, l8, l9, l10, l11, _, _, _, _, _, _, _, _, _, _, _, rfl, rfl, H0, H1, H2, Lib.hid (fun _ => rfl), Lib.hid (fun _ => rfl), H5, H6, H7, H8, H9, H10, H11, HS⟩
    · have haf := haf _ rfl
      have q2 : l2 = true := haf ⟨2, Go.Ground.data⟩ (by simp) rfl
      have q4 : l4 = true := haf ⟨4, Go.Ground.data⟩ (by simp) rfl
      clear haf
      have hu : l5 = false := hu
      have e2 := (H2.out q2)
      subst e2
      clear H2
      have e4 := (H4.out q4)
      subst e4
      clear H4
      refine wpOp_of_list_any rfl fun QQ hQ => ?_
      have hQQ := Lib.hid hQ
      clear hQ
      simp only [List.getElem_toArray, List.getElem_cons_zero, List.getElem_cons_succ]
      go_wp2_with fail
      exact hQQ.out _ _ ⟨l0, l1, l2, l3, l4, true, l6, l7, l8, l9, l10, l11, _, _, _, _, _, _, _, _, _, _, _, rfl, rfl, H0, H1, Lib.hid (fun _ => rfl), H3, Lib.hid (fun _ => rfl), Lib.hid (fun _ => rfl), H6, H7, H8, H9, H10, H11, HS⟩
    · have haf := haf _ rfl
      have q0 : l0 = true := haf ⟨0, Go.Ground.data⟩ (by simp) rfl
      have q1 : l1 = true := haf ⟨1, Go.Ground.data⟩ (by simp) rfl
      have q5 : l5 = true := haf ⟨5, Go.Ground.data⟩ (by simp) rfl
      clear haf
      have hu : l6 = false := hu
      have e0 := (H0.out q0)
      subst e0
      clear H0
      have e1 := (H1.out q1)
      subst e1
      clear H1
      have e5 := (H5.out q5)
      subst e5
      clear H5
      refine wpOp_of_list_any rfl fun QQ hQ => ?_
      have hQQ := Lib.hid hQ
      clear hQ
      simp only [List.getElem_toArray, List.getElem_cons_zero, List.getElem_cons_succ]
      go_wp2_with fail
      refine (HCM.out M (by omega) x HS.out.below).mono ?_
      rintro e x1 ⟨p, kq, ts, rfl, hr, hm, hb1⟩
      have hk := Kept.made (B := w5.heap.size) hb1
      have HKR := Lib.hid (show ∀ v ts, RowT w5.heap.size x v ts → RowT w5.heap.size x1 v ts from fun v ts h => h.made hb1)
      have HS1 := Lib.hid (HS.out.then hb1)
      have HR1 := Lib.hid (hr.mono HS.out.below.size)
      have HM1 := Lib.hid hm
      clear hb1 hr hm
      go_wp2_with fail
      exact hQQ.out _ _ ⟨l0, l1, l2, l3, l4, l5, true, l7, l8, l9, l10, l11, _, _, _, _, _, _, _, _, _, _, _, rfl, rfl, Lib.hid (fun _ => rfl), Lib.hid (fun _ => rfl), H2, H3, H4, Lib.hid (fun _ => rfl), Lib.hid (fun _ _ => ⟨p, kq, ts, rfl, HR1.out, HM1⟩), Lib.hid (fun h => (by obtain ⟨p, kq, ts, e, c0, c1⟩ := H7.out h; exact ⟨p, kq, ts, e, (HKR.out _ _ c0), c1⟩)), Lib.hid (fun h h2 => (by obtain ⟨p, kq, ts, e, c0, c1⟩ := H8.out h h2; exact ⟨p, kq, ts, e, (HKR.out _ _ c0), c1⟩)), H9, Lib.hid (fun h h2 => (by obtain ⟨S, e, c0, c1⟩ := H10.out h h2; exact ⟨S, e, c0, (hk _ _ _ c0 c1)⟩)), Lib.hid (fun h => (by obtain ⟨S, p, kq, ts, e, c0, c1, c2, c3, c4⟩ := H11.out h; exact ⟨S, p, kq, ts, e, c0, (hk _ _ _ c0 c1), (HKR.out _ _ c2), c3, c4⟩)), HS1⟩
    · have haf := haf _ rfl
      have q6 : l6 = true := haf ⟨6, Go.Ground.data⟩ (by simp) rfl
      clear haf
      have hu : l7 = false := hu
      obtain ⟨p6, kq6, ts6, e6, c6_0, c6_1⟩ := (H6.out q6 hu)
      subst e6
      clear H6
      refine wpOp_of_list_any rfl fun QQ hQ => ?_
      have hQQ := Lib.hid hQ
      clear hQ
      simp only [List.getElem_toArray, List.getElem_cons_zero, List.getElem_cons_succ]
      go_wp2_with fail
      exact hQQ.out _ _ ⟨l0, l1, l2, l3, l4, l5, l6, true, l8, l9, l10, l11, _, _, _, _, _, _, _, _, _, _, _, rfl, rfl, H0, H1, H2, H3, H4, H5, Lib.hid (fun _ h => by cases h), Lib.hid (fun _ => ⟨_, _, _, rfl, c6_0, c6_1⟩), H8, H9, H10, H11, HS⟩
    · have haf := haf _ rfl
      have q7 : l7 = true := haf ⟨7, Go.Ground.data⟩ (by simp) rfl
      clear haf
      have hu : l8 = false := hu
      obtain ⟨p7, kq7, ts7, e7, c7_0, c7_1⟩ := (H7.out q7)
      subst e7
      clear H7
      refine wpOp_of_list_any rfl fun QQ hQ => ?_
      have hQQ := Lib.hid hQ
      clear hQ
      simp only [List.getElem_toArray, List.getElem_cons_zero, List.getElem_cons_succ]
      go_wp2_with fail
      exact hQQ.out _ _ ⟨l0, l1, l2, l3, l4, l5, l6, l7, true, l9, l10, l11, _, _, _, _, _, _, _, _, _, _, _, rfl, rfl, H0, H1, H2, H3, H4, H5, H6, Lib.hid (fun _ => ⟨p7, kq7, ts7, rfl, c7_0, c7_1⟩), Lib.hid (fun _ _ => ⟨_, _, _, rfl, c7_0, c7_1⟩), H9, H10, H11, HS⟩
    · have haf := haf _ rfl
      have q7 : l7 = true := haf ⟨7, Go.Ground.data⟩ (by simp) rfl
      clear haf
      have hu : l9 = false := hu
      obtain ⟨p7, kq7, ts7, e7, c7_0, c7_1⟩ := (H7.out q7)
      subst e7
      clear H7
      refine wpOp_of_list_any rfl fun QQ hQ => ?_
      have hQQ := Lib.hid hQ
      clear hQ
      simp only [List.getElem_toArray, List.getElem_cons_zero, List.getElem_cons_succ]
      go_wp2_with fail
      exact hQQ.out _ _ ⟨l0, l1, l2, l3, l4, l5, l6, l7, l8, true, l10, l11, _, _, _, _, _, _, _, _, _, _, _, rfl, rfl, H0, H1, H2, H3, H4, H5, H6, Lib.hid (fun _ => ⟨p7, kq7, ts7, rfl, c7_0, c7_1⟩), H8, Lib.hid (fun _ => rfl), H10, H11, HS⟩
    · have haf := haf _ rfl
      clear haf
      have hu : l10 = false := hu
      refine wpOp_of_list_any rfl fun QQ hQ => ?_
      have hQQ := Lib.hid hQ
      clear hQ
      simp only [List.getElem_toArray, List.getElem_cons_zero, List.getElem_cons_succ]
      go_wp2_with fail
      exact hQQ.out _ _ ⟨l0, l1, l2, l3, l4, l5, l6, l7, l8, l9, true, l11, _, _, _, _, _, _, _, _, _, _, _, rfl, rfl, H0, H1, H2, H3, H4, H5, Lib.hid (fun h h2 => (by obtain ⟨p, kq, ts, e, c0, c1⟩ := H6.out h h2; exact ⟨p, kq, ts, e, (RowT.box c0), c1⟩)), Lib.hid (fun h => (by obtain ⟨p, kq, ts, e, c0, c1⟩ := H7.out h; exact ⟨p, kq, ts, e, (RowT.box c0), c1⟩)), Lib.hid (fun h h2 => (by obtain ⟨p, kq, ts, e, c0, c1⟩ := H8.out h h2; exact ⟨p, kq, ts, e, (RowT.box c0), c1⟩)), H9, Lib.hid (fun _ _ => ⟨_, rfl, HS.out.below.size, Blk.new x _ _⟩), Lib.hid (fun h => absurd (hu.symm.trans (by obtain ⟨S, p, kq, ts, e, c0, c1, c2, c3, c4⟩ := H11.out h; exact c4)) (by decide)), Lib.hid (HS.out.alloc _)⟩
    · have haf := haf _ rfl
      have q10 : l10 = true := haf ⟨10, Go.Ground.data⟩ (by simp) rfl
      have q8 : l8 = true := haf ⟨8, Go.Ground.data⟩ (by simp) rfl
      clear haf
      have hu : l11 = false := hu
      obtain ⟨S10, e10, c10_0, c10_1⟩ := (H10.out q10 hu)
      subst e10
      clear H10
      obtain ⟨p8, kq8, ts8, e8, c8_0, c8_1⟩ := (H8.out q8 hu)
      subst e8
      clear H8
      have f0 : x.cell? ⟨S10, 0, none⟩ = some (.string ⟨#[]⟩) := c10_1.cell 0
      have f1 : x.cell? ⟨S10, 1, none⟩ = some (.int .i64 0) := c10_1.cell 1
      have f2 : x.cell? ⟨S10, 2, none⟩ = some (.slice none 0 0) := c10_1.cell 2
      have z0 := c10_1.frozen 0
      have z1 := c10_1.frozen 1
      have z2 := c10_1.frozen 2
      have HZ := Lib.hid c10_1
      have HRW := Lib.hid (show ∀ (v : Value) (ts : List (Ev × Value × Value)) (a b c : Value), RowT w5.heap.size x v ts → RowT w5.heap.size (((x.setCell ⟨S10, 0, none⟩ a).setCell ⟨S10, 1, none⟩ b).setCell ⟨S10, 2, none⟩ c) v ts from fun v ts a b c h => ((h.set HZ.out (by decide) (by decide) 0 _).set (HZ.out.set 0 _) (by decide) (by decide) 1 _).set ((HZ.out.set 0 _).set 1 _) (by decide) (by decide) 2 _)
      refine wpOp_of_list_any rfl fun QQ hQ => ?_
      have hQQ := Lib.hid hQ
      clear hQ
      simp only [List.getElem_toArray, List.getElem_cons_zero, List.getElem_cons_succ]
      go_wp2_with fail
      exact hQQ.out _ _ ⟨l0, l1, l2, l3, l4, l5, l6, l7, l8, l9, l10, true, _, _, _, _, _, _, _, _, _, _, _, rfl, rfl, H0, H1, H2, H3, H4, H5, Lib.hid (fun h h2 => (by obtain ⟨p, kq, ts, e, c0, c1⟩ := H6.out h h2; exact ⟨p, kq, ts, e, (HRW.out _ _ _ _ _ c0), c1⟩)), Lib.hid (fun h => (by obtain ⟨p, kq, ts, e, c0, c1⟩ := H7.out h; exact ⟨p, kq, ts, e, (HRW.out _ _ _ _ _ c0), c1⟩)), Lib.hid (fun _ h => by cases h), H9, Lib.hid (fun _ h => by cases h), Lib.hid (fun _ => ⟨_, _, _, _, rfl, c10_0, ((HZ.out.set 0 _).set 1 _).set 2 _, HRW.out _ _ _ _ _ c8_0, c8_1, q10⟩), Lib.hid ⟨((HS.out.below.setCell (p := ⟨S10, 0, none⟩) c10_0 _).setCell (p := ⟨S10, 1, none⟩) c10_0 _).setCell (p := ⟨S10, 2, none⟩) c10_0 _⟩⟩
  · intro listed a x hj hall
    obtain ⟨l0, hj⟩ := hj
    obtain ⟨l1, hj⟩ := hj
    obtain ⟨l2, hj⟩ := hj
    obtain ⟨l3, hj⟩ := hj
    obtain ⟨l4, hj⟩ := hj
    obtain ⟨l5, hj⟩ := hj
    obtain ⟨l6, hj⟩ := hj
    obtain ⟨l7, hj⟩ := hj
    obtain ⟨l8, hj⟩ := hj
    obtain ⟨l9, hj⟩ := hj
    obtain ⟨l10, hj⟩ := hj
    obtain ⟨l11, hj⟩ := hj
    obtain ⟨t8, hj⟩ := hj
    obtain ⟨t42, hj⟩ := hj
    obtain ⟨t43, hj⟩ := hj
    obtain ⟨t44, hj⟩ := hj
    obtain ⟨t45, hj⟩ := hj
    obtain ⟨t46, hj⟩ := hj
    obtain ⟨t47, hj⟩ := hj
    obtain ⟨t48, hj⟩ := hj
    obtain ⟨t49, hj⟩ := hj
    obtain ⟨t50, hj⟩ := hj
    obtain ⟨t51, hj⟩ := hj
    obtain ⟨hl_, hj⟩ := hj
    obtain ⟨ha_, hj⟩ := hj
    obtain ⟨H0, hj⟩ := hj
    obtain ⟨H1, hj⟩ := hj
    obtain ⟨H2, hj⟩ := hj
    obtain ⟨H3, hj⟩ := hj
    obtain ⟨H4, hj⟩ := hj
    obtain ⟨H5, hj⟩ := hj
    obtain ⟨H6, hj⟩ := hj
    obtain ⟨H7, hj⟩ := hj
    obtain ⟨H8, hj⟩ := hj
    obtain ⟨H9, hj⟩ := hj
    obtain ⟨H10, hj⟩ := hj
    obtain ⟨H11, hj⟩ := hj
    have HS := hj
    clear hj
    subst hl_
    subst ha_
    have q9 : l9 = true := hall 9 (by omega)
    have q11 : l11 = true := hall 11 (by omega)
    clear hall
    have e9 := (H9.out q9)
    subst e9
    obtain ⟨S11, p11, kq11, ts11, e11, c11_0, c11_1, c11_2, c11_3, c11_4⟩ := (H11.out q11)
    subst e11
    refine tail_any (fun a x => ∃ (t8 t9 t42 t43 t44 t45 t46 t47 t48 t49 t50 t51 : Value), a = ⟨(.slice ao len cap :: undef :: .bool false :: .pointer (some ⟨b, 0, none⟩) :: .pointer (some ⟨G, 0, none⟩) :: .pointer (some ⟨T, 0, none⟩) :: .slice pu N cu :: .int .i64 (N : Int) :: t8 :: t9 :: undef :: undef :: undef :: undef :: undef :: undef :: undef :: undef :: undef :: undef :: undef :: undef :: undef :: .slice ao len cap :: .bool true :: .bool false :: undef :: .slice ao len cap :: .pointer (some ⟨b, 0, none⟩) :: .pointer (some ⟨b, 0, none⟩) :: .agg #[.int .i64 g.days, .int .i64 g.slots, .int .i64 g.begin_, .int .i64 g.mins] :: .pointer (some ⟨b, 0, none⟩) :: .agg #[.int .i64 t.first, .int .i64 t.weeks, .slice pt t.hols.length ct] :: .pointer (some ⟨b, 0, none⟩) :: .agg #[.int .i64 g.days, .int .i64 g.slots, .int .i64 g.begin_, .int .i64 g.mins] :: .agg #[.int .i64 t.first, .int .i64 t.weeks, .slice pt t.hols.length ct] :: .slice pu N cu :: .slice pu N cu :: .int .i64 (N : Int) :: .int .i64 (N : Int) :: .bool false :: undef :: t42 :: t43 :: t44 :: t45 :: t46 :: t47 :: t48 :: t49 :: t50 :: t51 :: undef :: undef :: undef :: undef :: undef :: undef :: undef :: undef :: undef :: undef :: undef :: undef :: undef :: undef :: undef :: undef :: undef :: undef :: undef :: undef :: undef :: undef :: undef :: undef :: undef :: undef :: undef :: undef :: undef :: undef :: undef :: undef :: undef :: undef :: undef :: undef :: undef :: undef :: undef :: undef :: undef :: undef :: undef :: undef :: undef :: undef :: undef :: undef :: undef :: undef :: undef :: undef :: undef :: undef :: undef :: undef :: undef :: undef :: undef :: undef :: undef :: undef :: undef :: undef :: undef :: undef :: undef :: undef :: undef :: undef :: undef :: undef :: undef :: undef :: undef :: undef :: undef :: undef :: undef :: undef :: undef :: undef :: undef :: undef :: undef :: undef :: undef :: undef :: undef :: undef :: undef :: undef :: undef :: undef :: undef :: undef :: undef :: undef :: undef :: undef :: undef :: undef :: undef :: undef :: undef :: undef :: undef :: undef :: undef :: undef :: undef :: undef :: undef :: undef :: undef :: undef :: undef :: undef :: undef :: undef :: undef :: undef :: undef :: undef :: undef :: undef :: undef :: undef :: undef :: undef :: undef :: undef :: undef :: undef :: undef :: undef :: undef :: undef :: undef :: undef :: undef :: undef :: undef :: undef :: undef :: undef :: undef :: undef :: undef :: undef :: undef :: undef :: undef :: undef :: undef :: undef :: undef :: undef :: undef :: undef :: undef :: undef :: undef :: undef :: undef :: undef :: undef :: undef :: undef :: undef :: undef :: undef :: undef :: undef :: []).toArray, []⟩ ∧ ∃ (S : Nat) (p : Option Addr) (kq : Nat) (ts : List (Ev × Value × Value)), t8 = .pointer (some ⟨S, 0, none⟩) ∧ t9 = .int .i64 0 ∧ Blk S #[.string ⟨#[120]⟩, .int .i64 M, .slice p ts.length kq] 49 x ∧ RowT w5.heap.size x (.slice p ts.length kq) ts ∧ Hid (ts.map (·.1) = makK g t ls M) ∧ Below w5.heap.size w5 x) ?_ fun QQ hQ => ?_
    · intro a x hpost
      obtain ⟨t8, hpost⟩ := hpost
      obtain ⟨t9, hpost⟩ := hpost
      obtain ⟨t42, hpost⟩ := hpost
      obtain ⟨t43, hpost⟩ := hpost
      obtain ⟨t44, hpost⟩ := hpost
      obtain ⟨t45, hpost⟩ := hpost
      obtain ⟨t46, hpost⟩ := hpost
      obtain ⟨t47, hpost⟩ := hpost
      obtain ⟨t48, hpost⟩ := hpost
      obtain ⟨t49, hpost⟩ := hpost
      obtain ⟨t50, hpost⟩ := hpost
      obtain ⟨t51, hpost⟩ := hpost
      obtain ⟨ha_, hpost⟩ := hpost
      subst ha_
      clear H0 H1 H2 H3 H4 H5 H6 H7 H8 H9 H10 H11
      obtain ⟨A, pa, qa, ta, rfl, rfl, hBS, hR, HMA, hb⟩ := hpost
      obtain ⟨w6, hmv⟩ : ∃ Q, Q = x := ⟨_, rfl⟩
      rw [← hmv] at hBS hR hb ⊢
      clear hmv
      obtain ⟨la, hla⟩ : ∃ la, la = ta.length := ⟨_, rfl⟩
      rw [← hla] at hBS hR
      have HLa := Lib.hid hla
      have HA6 := Lib.hid hBS
      have HRA6 := Lib.hid hR
      have HW6 := Lib.hid hb
      clear hBS hR hb hla
      have HG6 := Lib.hid (HG5.out.below HW6.out HG5.out.lt)
      have HT6 := Lib.hid (HT5.out.below HW6.out HT5.out.lt)
      have x0 : w6.cell? ⟨G, 0, none⟩ = some (.int .i64 g.days) := HG6.out.cell 0
      have x1 : w6.cell? ⟨G, 1, none⟩ = some (.int .i64 g.slots) := HG6.out.cell 1
      have x2 : w6.cell? ⟨G, 2, none⟩ = some (.int .i64 g.begin_) := HG6.out.cell 2
      have x3 : w6.cell? ⟨G, 3, none⟩ = some (.int .i64 g.mins) := HG6.out.cell 3
      have y0 : w6.cell? ⟨T, 0, none⟩ = some (.int .i64 t.first) := HT6.out.cell 0
      have y1 : w6.cell? ⟨T, 1, none⟩ = some (.int .i64 t.weeks) := HT6.out.cell 1
      have y2 : w6.cell? ⟨T, 2, none⟩ = some (.slice pt t.hols.length ct) := HT6.out.cell 2
      have HCN := Lib.hid (HCM.out N (Nat.le_refl _) w6 HW6.out)
      go_upto_region 11 with (go_at_call 39; (with_reducible refine HCN.out.mono ?_); rintro e w7 ⟨pb, qb, tb, rfl, hr, hm, hb1⟩; have HRB7 := Lib.hid hr; have HMB := Lib.hid hm; have HB7 := Lib.hid hb1; clear hr hm hb1)
      clear x0 x1 x2 x3 y0 y1 y2 HCN
      obtain ⟨lb, hlb⟩ : ∃ lb, lb = tb.length := ⟨_, rfl⟩
      rw [← hlb] at HRB7 ⊢
      have HLb := Lib.hid hlb
      clear hlb
      obtain ⟨B, hB⟩ : ∃ B, B = w7.heap.size := ⟨_, rfl⟩
      obtain ⟨w8, hw8⟩ : ∃ Q, Q = w7.alloc (.cells #[.string ⟨#[120]⟩, .int .i64 N, .slice pb lb qb] 49) := ⟨_, rfl⟩
      have HB8 := Lib.hid (show Blk B #[.string ⟨#[120]⟩, .int .i64 N, .slice pb lb qb] 49 w8 from by rw [hw8, hB]; exact Blk.new w7 _ _)
      have HK8 := Lib.hid (show Below w6.heap.size w6 w8 from by rw [hw8]; exact HB7.out.trans ((below_box w7 _).mono HB7.out.size))
      have HRB8 := Lib.hid (show RowT w5.heap.size w8 (.slice pb lb qb) tb from by rw [hw8]; exact (HRB7.out.alloc _).mono HW6.out.size)
      rw [← hw8, ← hB]
      clear hw8 hB HRB7 HB7
      have HW8 := Lib.hid (HW6.out.trans (HK8.out.mono HW6.out.size))
      have HA8 := Lib.hid (HA6.out.below HK8.out HA6.out.lt)
      have HRA8 := Lib.hid (show RowT w5.heap.size w8 (.slice pa la qa) ta from HRA6.out.made HK8.out)
      clear HA6 HRA6 HG6 HT6
      have HKA := Lib.hid (HVO.out.lists (k := M) (by have := HNL.out; have := HMN.out; omega) HMA.out)
      have HKB := Lib.hid (HVO.out.lists (k := N) (by have := HNL.out; omega) HMB.out)
      have hla48 : la ≤ 48 := by rw [HLa.out]; exact HKA.out.1
      have hlb48 : lb ≤ 48 := by rw [HLb.out]; exact HKB.out.1
      have a0 : w8.cell? ⟨A, 0, none⟩ = some (.string ⟨#[120]⟩) := HA8.out.cell 0
      have a1 : w8.cell? ⟨A, 1, none⟩ = some (.int .i64 M) := HA8.out.cell 1
      have a2 : w8.cell? ⟨A, 2, none⟩ = some (.slice pa la qa) := HA8.out.cell 2
      have b0 : w8.cell? ⟨B, 0, none⟩ = some (.string ⟨#[120]⟩) := HB8.out.cell 0
      have b1 : w8.cell? ⟨B, 1, none⟩ = some (.int .i64 N) := HB8.out.cell 1
      have b2 : w8.cell? ⟨B, 2, none⟩ = some (.slice pb lb qb) := HB8.out.cell 2
      have hne : (((N : Int)) != (N : Int)) = false := by simp
      go_upto_region 13 with (fail)
      clear a0 a1 a2 b0 b1 b2 hne
      have H40B := Lib.hid (show ∀ W, Below w8.heap.size w8 W → ∀ u : ByteArray, Calls Tryz.prog 40 #[.slice pb lb qb, .string u] W fun e w' => e = .returned (.int .i64 (findFrom u (makK g t ls N) 0)) ∧ w' = W from fun W hW u => by
        have h := find84 u (tb.map (·.1)) pb qb W.heap.size W (HRB8.out.made hW).sg.evs (by rw [List.length_map]; have := HLb.out; omega)
        rw [List.length_map, ← HLb.out, HMB.out] at h
        exact h)
      have H40A := Lib.hid (show ∀ W, Below w8.heap.size w8 W → ∀ u : ByteArray, Calls Tryz.prog 40 #[.slice pa la qa, .string u] W fun e w' => e = .returned (.int .i64 (findFrom u (makK g t ls M) 0)) ∧ w' = W from fun W hW u => by
        have h := find84 u (ta.map (·.1)) pa qa W.heap.size W (HRA8.out.made hW).sg.evs (by rw [List.length_map]; have := HLa.out; omega)
        rw [List.length_map, ← HLa.out, HMA.out] at h
        exact h)
      have HEA := Lib.hid (show ∀ (i : Nat) (x : Ev × Value × Value), ta[i]? = some x → x.1 ∈ makK g t ls M from fun i x h => by rw [← HMA.out]; exact List.mem_map.2 ⟨x, List.mem_of_getElem? h, rfl⟩)
      have HEB := Lib.hid (show ∀ (i : Nat) (x : Ev × Value × Value), tb[i]? = some x → x.1 ∈ makK g t ls N from fun i x h => by rw [← HMB.out]; exact List.mem_map.2 ⟨x, List.mem_of_getElem? h, rfl⟩)
      have HLS := Lib.hid (show N ≤ ls.length by have := HNL.out; omega)
      go_wp2_with fail
      go_loopw [12] (fun iv wr => ∃ i : Nat, iv = .int .i64 i ∧ i ≤ la ∧ Hid (Below w8.heap.size w8 wr)) (fun iv _ => la - (intOf iv).toNat)
      case atStart => exact ⟨0, rfl, Nat.zero_le _, Lib.hid (Below.refl _ _)⟩
      case round =>
        obtain ⟨i, rfl, hi, HW⟩ := hrel
        have a2 : wr.cell? ⟨A, 2, none⟩ = some (.slice pa la qa) := (HA8.out.below HW.out HA8.out.lt).cell 2
        have b2 : wr.cell? ⟨B, 2, none⟩ = some (.slice pb lb qb) := (HB8.out.below HW.out HB8.out.lt).cell 2
        by_cases hlt : i < la
        · skip
          have hii : (i : Int) < (la : Int) := by omega
          have hi0 : (0 : Int) ≤ (i : Int) := by omega
          have hin : ((i : Int)).toNat = i := by omega
          obtain ⟨q, hq⟩ : ∃ q, ta[i]? = some q := ⟨_, List.getElem?_eq_getElem (by have := HLa.out; omega)⟩
          obtain ⟨ga, hp, hga⟩ : ∃ gx, pa = some ⟨gx, 0, none⟩ ∧ gx < w8.heap.size := by
            have h := HRA8.out.row
            rcases h.2 with ⟨h1, h2⟩ | ⟨gx, cap, cur, hv, _, hgb, _⟩
            · have := HLa.out; omega
            · simp only [Value.slice.injEq] at hv; exact ⟨gx, hv.1, (Array.getElem?_eq_some_iff.1 hgb).1⟩
          subst hp
          have HE0 := Lib.hid (show ∀ W, Below w8.heap.size w8 W → W.cell? ⟨ga, i * 13, none⟩ = some (.string q.1.uid) from fun W hW => (hW.cell (p := ⟨ga, i * 13, none⟩) hga).trans (HRA8.out.ev i q hq).c0)
          obtain ⟨fk, hfk, hfk0⟩ : ∃ fk : Int, fk = findFrom q.1.uid (makK g t ls N) 0 ∧ 0 ≤ fk := by
            obtain ⟨j, o, h1, -, -⟩ := find_has (makK_keep (j := N) (by have := HMN.out; omega) (HEA.out i q hq))
            exact ⟨_, rfl, by rw [h1]; omega⟩
          have HFK := Lib.hid hfk
          clear hq hfk
          have hfb : decide (fk < 0) = false := decide_eq_false (by omega)
          go_upto_region 16 with (fail)
          refine wp_region_tail 8 (by kernel_rfl) (fun listed a x => ∃ (l0 l1 l2 l3 l4 l5 l6 l7 : Bool) (t78 t79 t80 t81 t82 t83 t84 t85 : Value), listed = #[l0, l1, l2, l3, l4, l5, l6, l7, false, false] ∧ a = ⟨(.slice ao len cap :: undef :: u2 :: .pointer (some ⟨b, 0, none⟩) :: .pointer (some ⟨G, 0, none⟩) :: .pointer (some ⟨T, 0, none⟩) :: .slice pu N cu :: .int .i64 (N : Int) :: .pointer (some ⟨A, 0, none⟩) :: .int .i64 0 :: .pointer (some ⟨B, 0, none⟩) :: .int .i64 0 :: .int .i64 (i : Int) :: undef :: undef :: undef :: undef :: undef :: undef :: undef :: undef :: undef :: undef :: .slice ao len cap :: .bool true :: .bool false :: undef :: .slice ao len cap :: .pointer (some ⟨b, 0, none⟩) :: .pointer (some ⟨b, 0, none⟩) :: .agg #[.int .i64 g.days, .int .i64 g.slots, .int .i64 g.begin_, .int .i64 g.mins] :: .pointer (some ⟨b, 0, none⟩) :: .agg #[.int .i64 t.first, .int .i64 t.weeks, .slice pt t.hols.length ct] :: .pointer (some ⟨b, 0, none⟩) :: .agg #[.int .i64 g.days, .int .i64 g.slots, .int .i64 g.begin_, .int .i64 g.mins] :: .agg #[.int .i64 t.first, .int .i64 t.weeks, .slice pt t.hols.length ct] :: .slice pu N cu :: .slice pu N cu :: .int .i64 (N : Int) :: .int .i64 (N : Int) :: .bool false :: undef :: t42 :: t43 :: t44 :: t45 :: t46 :: t47 :: t48 :: t49 :: t50 :: t51 :: .tuple #[.agg #[.string ⟨#[120]⟩, .int .i64 (N : Int), .slice pb lb qb], .int .i64 0] :: .agg #[.int .i64 g.days, .int .i64 g.slots, .int .i64 g.begin_, .int .i64 g.mins] :: .agg #[.int .i64 t.first, .int .i64 t.weeks, .slice pt t.hols.length ct] :: .slice pu N cu :: .tuple #[.agg #[.string ⟨#[120]⟩, .int .i64 (N : Int), .slice pb lb qb], .int .i64 0] :: .agg #[.string ⟨#[120]⟩, .int .i64 (N : Int), .slice pb lb qb] :: .int .i64 0 :: .int .i64 0 :: .bool false :: .bool false :: .int .i64 0 :: .bool false :: .bool false :: .bool false :: .pointer (some ⟨B, 1, none⟩) :: .int .i64 (N : Int) :: .int .i64 (N : Int) :: .bool false :: .bool false :: .int .i64 (i : Int) :: .pointer (some ⟨A, 2, none⟩) :: .slice (some ⟨ga, 0, none⟩) la qa :: .int .i64 (la : Int) :: .bool true :: u76 :: u77 :: t78 :: t79 :: t80 :: t81 :: t82 :: t83 :: t84 :: t85 :: u86 :: u87 :: undef :: undef :: undef :: undef :: undef :: undef :: undef :: undef :: undef :: undef :: undef :: undef :: undef :: undef :: undef :: undef :: undef :: undef :: undef :: undef :: undef :: undef :: undef :: undef :: undef :: undef :: undef :: undef :: undef :: undef :: undef :: undef :: undef :: undef :: undef :: undef :: undef :: undef :: undef :: undef :: undef :: undef :: undef :: undef :: undef :: undef :: undef :: undef :: undef :: undef :: undef :: undef :: undef :: undef :: undef :: undef :: undef :: undef :: undef :: undef :: undef :: undef :: undef :: undef :: undef :: undef :: undef :: undef :: undef :: undef :: undef :: undef :: undef :: undef :: undef :: undef :: undef :: undef :: undef :: undef :: undef :: undef :: undef :: undef :: undef :: undef :: undef :: undef :: undef :: undef :: undef :: undef :: undef :: undef :: undef :: undef :: undef :: undef :: undef :: undef :: undef :: undef :: undef :: undef :: undef :: undef :: undef :: undef :: undef :: undef :: undef :: undef :: undef :: undef :: undef :: undef :: undef :: undef :: undef :: undef :: undef :: undef :: undef :: undef :: undef :: undef :: undef :: undef :: undef :: undef :: undef :: undef :: undef :: undef :: undef :: undef :: undef :: undef :: []).toArray, []⟩ ∧ Hid (l0 = true → t78 = .pointer (some ⟨B, 2, none⟩)) ∧ Hid (l1 = true → t79 = .slice pb lb qb) ∧ Hid (l2 = true → t80 = .pointer (some ⟨A, 2, none⟩)) ∧ Hid (l3 = true → t81 = .slice (some ⟨ga, 0, none⟩) la qa) ∧ Hid (l4 = true → t82 = .int .i64 (i : Int)) ∧ Hid (l5 = true → t83 = .pointer (some ⟨ga, i * 13, none⟩)) ∧ Hid (l6 = true → t84 = .pointer (some ⟨ga, i * 13, none⟩)) ∧ Hid (l7 = true → t85 = .string q.1.uid) ∧ Hid (Made wr x)) (by decide) (by kernel_rfl) (by kernel_rfl) ?_ ?_ ?_ ?_
          · exact ⟨false, false, false, false, false, false, false, false, _, _, _, _, _, _, _, _, rfl, rfl, Lib.hid (fun h => by cases h), Lib.hid (fun h => by cases h), Lib.hid (fun h => by cases h), Lib.hid (fun h => by cases h), Lib.hid (fun h => by cases h), Lib.hid (fun h => by cases h), Lib.hid (fun h => by cases h), Lib.hid (fun h => by cases h), Lib.hid (Made.start wr)⟩
          · intro listed a x hj
            obtain ⟨l0, hj⟩ := hj
            obtain ⟨l1, hj⟩ := hj
            obtain ⟨l2, hj⟩ := hj
            obtain ⟨l3, hj⟩ := hj
            obtain ⟨l4, hj⟩ := hj
            obtain ⟨l5, hj⟩ := hj
            obtain ⟨l6, hj⟩ := hj
            obtain ⟨l7, hj⟩ := hj
            obtain ⟨t78, hj⟩ := hj
            obtain ⟨t79, hj⟩ := hj
            obtain ⟨t80, hj⟩ := hj
            obtain ⟨t81, hj⟩ := hj
            obtain ⟨t82, hj⟩ := hj
            obtain ⟨t83, hj⟩ := hj
            obtain ⟨t84, hj⟩ := hj
            obtain ⟨t85, hj⟩ := hj
            obtain ⟨h1, -⟩ := hj
            subst h1
            exact ⟨rfl, fun k h1 h2 => by (have h2 : k < 10 := h2); rcases (show k = 8 ∨ k = 9 by omega) with rfl | rfl <;> rfl⟩
          · intro listed a x i hj hlt hu haf
            obtain ⟨l0, hj⟩ := hj
            obtain ⟨l1, hj⟩ := hj
            obtain ⟨l2, hj⟩ := hj
            obtain ⟨l3, hj⟩ := hj
            obtain ⟨l4, hj⟩ := hj
            obtain ⟨l5, hj⟩ := hj
            obtain ⟨l6, hj⟩ := hj
            obtain ⟨l7, hj⟩ := hj
            obtain ⟨t78, hj⟩ := hj
            obtain ⟨t79, hj⟩ := hj
            obtain ⟨t80, hj⟩ := hj
            obtain ⟨t81, hj⟩ := hj
            obtain ⟨t82, hj⟩ := hj
            obtain ⟨t83, hj⟩ := hj
            obtain ⟨t84, hj⟩ := hj
            obtain ⟨t85, hj⟩ := hj
            obtain ⟨hl_, hj⟩ := hj
            obtain ⟨ha_, hj⟩ := hj
            obtain ⟨H0, hj⟩ := hj
            obtain ⟨H1, hj⟩ := hj
            obtain ⟨H2, hj⟩ := hj
            obtain ⟨H3, hj⟩ := hj
            obtain ⟨H4, hj⟩ := hj
            obtain ⟨H5, hj⟩ := hj
            obtain ⟨H6, hj⟩ := hj
            obtain ⟨H7, hj⟩ := hj
            have HS := hj
            clear hj
            subst hl_
            subst ha_
            rcases (show ∀ i : Nat, i < 8 → (i = 0 ∨ i = 1 ∨ i = 2 ∨ i = 3 ∨ i = 4 ∨ i = 5 ∨ i = 6 ∨ i = 7) by decide) i hlt with rfl | rfl | rfl | rfl | rfl | rfl | rfl | rfl
            · have haf := haf _ rfl
              clear haf
              have hu : l0 = false := hu
              refine wpOp_of_list_any rfl fun QQ hQ => ?_
              have hQQ := Lib.hid hQ
              clear hQ
              simp only [List.getElem_toArray, List.getElem_cons_zero]
              go_wp2_with fail
              exact hQQ.out _ _ ⟨true, l1, l2, l3, l4, l5, l6, l7, _, _, _, _, _, _, _, _, rfl, rfl, Lib.hid (fun _ => rfl), H1, H2, H3, H4, H5, H6, H7, HS⟩
            · have haf := haf _ rfl
              have q0 : l0 = true := haf ⟨0, Go.Ground.data⟩ (by simp) rfl
              clear haf
              have hu : l1 = false := hu
              have e0 := (H0.out q0)
              subst e0
              clear H0
              have hc : x.cell? ⟨B, 2, none⟩ = some (.slice pb lb qb) := (HB8.out.below (HW.out.trans (HS.out.below.mono HW.out.size)) HB8.out.lt).cell 2
              refine wpOp_of_list_any rfl fun QQ hQ => ?_
              have hQQ := Lib.hid hQ
              clear hQ
              simp only [List.getElem_toArray, List.getElem_cons_zero, List.getElem_cons_succ]
              go_wp2_with fail
              exact hQQ.out _ _ ⟨l0, true, l2, l3, l4, l5, l6, l7, _, _, _, _, _, _, _, _, rfl, rfl, Lib.hid (fun _ => rfl), Lib.hid (fun _ => rfl), H2, H3, H4, H5, H6, H7, HS⟩
            · have haf := haf _ rfl
              clear haf
              have hu : l2 = false := hu
              refine wpOp_of_list_any rfl fun QQ hQ => ?_
              have hQQ := Lib.hid hQ
              clear hQ
              simp only [List.getElem_toArray, List.getElem_cons_zero, List.getElem_cons_succ]
              go_wp2_with fail
              exact hQQ.out _ _ ⟨l0, l1, true, l3, l4, l5, l6, l7, _, _, _, _, _, _, _, _, rfl, rfl, H0, H1, Lib.hid (fun _ => rfl), H3, H4, H5, H6, H7, HS⟩
            · have haf := haf _ rfl
              have q2 : l2 = true := haf ⟨2, Go.Ground.data⟩ (by simp) rfl
              clear haf
              have hu : l3 = false := hu
              have e2 := (H2.out q2)
              subst e2
              clear H2
              have hc : x.cell? ⟨A, 2, none⟩ = some (.slice (some ⟨ga, 0, none⟩) la qa) := (HA8.out.below (HW.out.trans (HS.out.below.mono HW.out.size)) HA8.out.lt).cell 2
              refine wpOp_of_list_any rfl fun QQ hQ => ?_
              have hQQ := Lib.hid hQ
              clear hQ
              simp only [List.getElem_toArray, List.getElem_cons_zero, List.getElem_cons_succ]
              go_wp2_with fail
              exact hQQ.out _ _ ⟨l0, l1, l2, true, l4, l5, l6, l7, _, _, _, _, _, _, _, _, rfl, rfl, H0, H1, Lib.hid (fun _ => rfl), Lib.hid (fun _ => rfl), H4, H5, H6, H7, HS⟩
            · have haf := haf _ rfl
              clear haf
              have hu : l4 = false := hu
              refine wpOp_of_list_any rfl fun QQ hQ => ?_
              have hQQ := Lib.hid hQ
              clear hQ
              simp only [List.getElem_toArray, List.getElem_cons_zero, List.getElem_cons_succ]
              go_wp2_with fail
              exact hQQ.out _ _ ⟨l0, l1, l2, l3, true, l5, l6, l7, _, _, _, _, _, _, _, _, rfl, rfl, H0, H1, H2, H3, Lib.hid (fun _ => rfl), H5, H6, H7, HS⟩
            · have haf := haf _ rfl
              have q3 : l3 = true := haf ⟨3, Go.Ground.data⟩ (by simp) rfl
              have q4 : l4 = true := haf ⟨4, Go.Ground.data⟩ (by simp) rfl
              clear haf
              have hu : l5 = false := hu
              have e3 := (H3.out q3)
              subst e3
              clear H3
              have e4 := (H4.out q4)
              subst e4
              clear H4
              refine wpOp_of_list_any rfl fun QQ hQ => ?_
              have hQQ := Lib.hid hQ
              clear hQ
              simp only [List.getElem_toArray, List.getElem_cons_zero, List.getElem_cons_succ]
              go_wp2_with fail
              exact hQQ.out _ _ ⟨l0, l1, l2, l3, l4, true, l6, l7, _, _, _, _, _, _, _, _, rfl, rfl, H0, H1, H2, Lib.hid (fun _ => rfl), Lib.hid (fun _ => rfl), Lib.hid (fun _ => rfl), H6, H7, HS⟩
            · have haf := haf _ rfl
              have q5 : l5 = true := haf ⟨5, Go.Ground.data⟩ (by simp) rfl
              clear haf
              have hu : l6 = false := hu
              have e5 := (H5.out q5)
              subst e5
              clear H5
              refine wpOp_of_list_any rfl fun QQ hQ => ?_
              have hQQ := Lib.hid hQ
              clear hQ
              simp only [List.getElem_toArray, List.getElem_cons_zero, List.getElem_cons_succ]
              go_wp2_with fail
              exact hQQ.out _ _ ⟨l0, l1, l2, l3, l4, l5, true, l7, _, _, _, _, _, _, _, _, rfl, rfl, H0, H1, H2, H3, H4, Lib.hid (fun _ => rfl), Lib.hid (fun _ => rfl), H7, HS⟩
            · have haf := haf _ rfl
              have q6 : l6 = true := haf ⟨6, Go.Ground.data⟩ (by simp) rfl
              clear haf
              have hu : l7 = false := hu
              have e6 := (H6.out q6)
              subst e6
              clear H6
              have hc := HE0.out x (HW.out.trans (HS.out.below.mono HW.out.size))
              refine wpOp_of_list_any rfl fun QQ hQ => ?_
              have hQQ := Lib.hid hQ
              clear hQ
              simp only [List.getElem_toArray, List.getElem_cons_zero, List.getElem_cons_succ]
              go_wp2_with fail
              exact hQQ.out _ _ ⟨l0, l1, l2, l3, l4, l5, l6, true, _, _, _, _, _, _, _, _, rfl, rfl, H0, H1, H2, H3, H4, H5, Lib.hid (fun _ => rfl), Lib.hid (fun _ => rfl), HS⟩
          · intro listed a x hj hall
            obtain ⟨l0, hj⟩ := hj
            obtain ⟨l1, hj⟩ := hj
            obtain ⟨l2, hj⟩ := hj
            obtain ⟨l3, hj⟩ := hj
            obtain ⟨l4, hj⟩ := hj
            obtain ⟨l5, hj⟩ := hj
            obtain ⟨l6, hj⟩ := hj
            obtain ⟨l7, hj⟩ := hj
            obtain ⟨t78, hj⟩ := hj
            obtain ⟨t79, hj⟩ := hj
            obtain ⟨t80, hj⟩ := hj
            obtain ⟨t81, hj⟩ := hj
            obtain ⟨t82, hj⟩ := hj
            obtain ⟨t83, hj⟩ := hj
            obtain ⟨t84, hj⟩ := hj
            obtain ⟨t85, hj⟩ := hj
            obtain ⟨hl_, hj⟩ := hj
            obtain ⟨ha_, hj⟩ := hj
            obtain ⟨H0, hj⟩ := hj
            obtain ⟨H1, hj⟩ := hj
            obtain ⟨H2, hj⟩ := hj
            obtain ⟨H3, hj⟩ := hj
            obtain ⟨H4, hj⟩ := hj
            obtain ⟨H5, hj⟩ := hj
            obtain ⟨H6, hj⟩ := hj
            obtain ⟨H7, hj⟩ := hj
            have HS := hj
            clear hj
            subst hl_
            subst ha_
            have q1 : l1 = true := hall 1 (by omega)
            have q7 : l7 = true := hall 7 (by omega)
            clear hall
            have e1 := (H1.out q1)
            subst e1
            have e7 := (H7.out q7)
            subst e7
            refine tail_any (fun a x => ∃ (t78 t79 t80 t81 t82 t83 t84 t85 t86 t87 : Value), a = ⟨(.slice ao len cap :: undef :: u2 :: .pointer (some ⟨b, 0, none⟩) :: .pointer (some ⟨G, 0, none⟩) :: .pointer (some ⟨T, 0, none⟩) :: .slice pu N cu :: .int .i64 (N : Int) :: .pointer (some ⟨A, 0, none⟩) :: .int .i64 0 :: .pointer (some ⟨B, 0, none⟩) :: .int .i64 0 :: .int .i64 (i : Int) :: undef :: undef :: undef :: undef :: undef :: undef :: undef :: undef :: undef :: undef :: .slice ao len cap :: .bool true :: .bool false :: undef :: .slice ao len cap :: .pointer (some ⟨b, 0, none⟩) :: .pointer (some ⟨b, 0, none⟩) :: .agg #[.int .i64 g.days, .int .i64 g.slots, .int .i64 g.begin_, .int .i64 g.mins] :: .pointer (some ⟨b, 0, none⟩) :: .agg #[.int .i64 t.first, .int .i64 t.weeks, .slice pt t.hols.length ct] :: .pointer (some ⟨b, 0, none⟩) :: .agg #[.int .i64 g.days, .int .i64 g.slots, .int .i64 g.begin_, .int .i64 g.mins] :: .agg #[.int .i64 t.first, .int .i64 t.weeks, .slice pt t.hols.length ct] :: .slice pu N cu :: .slice pu N cu :: .int .i64 (N : Int) :: .int .i64 (N : Int) :: .bool false :: undef :: t42 :: t43 :: t44 :: t45 :: t46 :: t47 :: t48 :: t49 :: t50 :: t51 :: .tuple #[.agg #[.string ⟨#[120]⟩, .int .i64 (N : Int), .slice pb lb qb], .int .i64 0] :: .agg #[.int .i64 g.days, .int .i64 g.slots, .int .i64 g.begin_, .int .i64 g.mins] :: .agg #[.int .i64 t.first, .int .i64 t.weeks, .slice pt t.hols.length ct] :: .slice pu N cu :: .tuple #[.agg #[.string ⟨#[120]⟩, .int .i64 (N : Int), .slice pb lb qb], .int .i64 0] :: .agg #[.string ⟨#[120]⟩, .int .i64 (N : Int), .slice pb lb qb] :: .int .i64 0 :: .int .i64 0 :: .bool false :: .bool false :: .int .i64 0 :: .bool false :: .bool false :: .bool false :: .pointer (some ⟨B, 1, none⟩) :: .int .i64 (N : Int) :: .int .i64 (N : Int) :: .bool false :: .bool false :: .int .i64 (i : Int) :: .pointer (some ⟨A, 2, none⟩) :: .slice (some ⟨ga, 0, none⟩) la qa :: .int .i64 (la : Int) :: .bool true :: u76 :: u77 :: t78 :: t79 :: t80 :: t81 :: t82 :: t83 :: t84 :: t85 :: t86 :: t87 :: undef :: undef :: undef :: undef :: undef :: undef :: undef :: undef :: undef :: undef :: undef :: undef :: undef :: undef :: undef :: undef :: undef :: undef :: undef :: undef :: undef :: undef :: undef :: undef :: undef :: undef :: undef :: undef :: undef :: undef :: undef :: undef :: undef :: undef :: undef :: undef :: undef :: undef :: undef :: undef :: undef :: undef :: undef :: undef :: undef :: undef :: undef :: undef :: undef :: undef :: undef :: undef :: undef :: undef :: undef :: undef :: undef :: undef :: undef :: undef :: undef :: undef :: undef :: undef :: undef :: undef :: undef :: undef :: undef :: undef :: undef :: undef :: undef :: undef :: undef :: undef :: undef :: undef :: undef :: undef :: undef :: undef :: undef :: undef :: undef :: undef :: undef :: undef :: undef :: undef :: undef :: undef :: undef :: undef :: undef :: undef :: undef :: undef :: undef :: undef :: undef :: undef :: undef :: undef :: undef :: undef :: undef :: undef :: undef :: undef :: undef :: undef :: undef :: undef :: undef :: undef :: undef :: undef :: undef :: undef :: undef :: undef :: undef :: undef :: undef :: undef :: undef :: undef :: undef :: undef :: undef :: undef :: undef :: undef :: undef :: undef :: undef :: undef :: []).toArray, []⟩ ∧ t87 = .bool false ∧ Below wr.heap.size wr x) ?_ fun QQ hQ => ?_
            · intro a x hpost
              obtain ⟨t78, hpost⟩ := hpost
              obtain ⟨t79, hpost⟩ := hpost
              obtain ⟨t80, hpost⟩ := hpost
              obtain ⟨t81, hpost⟩ := hpost
              obtain ⟨t82, hpost⟩ := hpost
              obtain ⟨t83, hpost⟩ := hpost
              obtain ⟨t84, hpost⟩ := hpost
              obtain ⟨t85, hpost⟩ := hpost
              obtain ⟨t86, hpost⟩ := hpost
              obtain ⟨t87, hpost⟩ := hpost
              obtain ⟨ha_, hpost⟩ := hpost
              subst ha_
              clear H0 H1 H2 H3 H4 H5 H6 H7
              obtain ⟨rfl, hb⟩ := hpost
              have HWN := Lib.hid (HW.out.trans (hb.mono HW.out.size))
              clear hb a2 b2
              go_wp2_with fail
              go_roundw
              case rel => exact ⟨i + 1, by go_num, by omega, HWN⟩
              case measure => simp [intOf]; omega
            have hQQ := Lib.hid hQ
            clear hQ
            simp only [List.drop_succ_cons, List.drop_zero]
            have HF40 := Lib.hid (H40B.out x (HW.out.trans (HS.out.below.mono HW.out.size)) q.1.uid)
            go_wp2_with (go_at_call 40; (with_reducible refine HF40.out.mono ?_); rintro e wf ⟨rfl, hwf⟩; rw [hwf, ← HFK.out]; clear hwf wf)
            exact hQQ.out _ _ ⟨_, _, _, _, _, _, _, _, _, _, rfl, rfl, HS.out.below⟩
        have hii : ¬ (i : Int) < (la : Int) := by omega
        obtain ⟨w9, hw9⟩ : ∃ q, q = wr := ⟨_, rfl⟩
        rw [← hw9] at HW a2 b2 ⊢
        clear hw9 wr hlt
        go_wp2_with fail
        clear a2 b2 hii hi
        go_loopw [13, 14] (fun cv iv wr => ∃ i c : Nat, cv = .int .i64 c ∧ iv = .int .i64 i ∧ i ≤ lb ∧ Hid (c = (((makK g t ls N).take i).filter (fun e => !e.canc)).length) ∧ Hid (Below w8.heap.size w8 wr)) (fun _ iv _ => lb - (intOf iv).toNat)
        case atStart => exact ⟨0, 0, rfl, rfl, Nat.zero_le _, Lib.hid rfl, HW⟩
        case round =>
          obtain ⟨j, c, rfl, rfl, hj, HC, HX⟩ := hrel
          have hcj : c ≤ j := by rw [HC.out]; exact filt_le _ _ _
          have a2 : wr.cell? ⟨A, 2, none⟩ = some (.slice pa la qa) := (HA8.out.below HX.out HA8.out.lt).cell 2
          have b2 : wr.cell? ⟨B, 2, none⟩ = some (.slice pb lb qb) := (HB8.out.below HX.out HB8.out.lt).cell 2
          by_cases hlt : j < lb
          · skip
            have hjj : (j : Int) < (lb : Int) := by omega
            have hj0 : (0 : Int) ≤ (j : Int) := by omega
            have hjn : ((j : Int)).toNat = j := by omega
            obtain ⟨q, hq⟩ : ∃ q, tb[j]? = some q := ⟨_, List.getElem?_eq_getElem (by have := HLb.out; omega)⟩
            obtain ⟨gb, hp, hgb⟩ : ∃ gx, pb = some ⟨gx, 0, none⟩ ∧ gx < w8.heap.size := by
              have h := HRB8.out.row
              rcases h.2 with ⟨h1, h2⟩ | ⟨gx, cap, cur, hv, _, hgb, _⟩
              · have := HLb.out; omega
              · simp only [Value.slice.injEq] at hv; exact ⟨gx, hv.1, (Array.getElem?_eq_some_iff.1 hgb).1⟩
            subst hp
            obtain ⟨E, v1, v2⟩ := q
            have hev : EvC gb (j * 13) E v1 v2 w8 := HRB8.out.ev j (E, v1, v2) hq
            obtain ⟨-, hx1, hx2⟩ := HRB8.out.ref (E, v1, v2) (List.mem_of_getElem? hq)
            obtain ⟨q1, d1, hv1⟩ := RowI.slice hx1
            obtain ⟨q2, d2, hv2⟩ := RowI.slice hx2
            simp only at hv1 hv2 hx1 hx2
            subst hv1 hv2
            have HX1 := Lib.hid hx1
            have HX2 := Lib.hid hx2
            have hEM : E ∈ makK g t ls N := HEB.out j _ hq
            have HEM := Lib.hid hEM
            have HQ := Lib.hid hq
            have HGE := Lib.hid (show (makK g t ls N)[j]? = some E from by rw [← HMB.out, List.getElem?_map, hq]; rfl)
            have HEV := Lib.hid hev
            clear hx1 hx2 hEM hq hev
            have e0 : wr.cell? ⟨gb, j * 13, none⟩ = some (.string E.uid) := (HX.out.cell (p := ⟨gb, j * 13, none⟩) hgb).trans HEV.out.c0
            have e1 : wr.cell? ⟨gb, j * 13 + 1, none⟩ = some (.int .i64 E.seq) := (HX.out.cell (p := ⟨gb, j * 13 + 1, none⟩) hgb).trans HEV.out.c1
            have e2 : wr.cell? ⟨gb, j * 13 + 2, none⟩ = some (.bool E.canc) := (HX.out.cell (p := ⟨gb, j * 13 + 2, none⟩) hgb).trans HEV.out.c2
            have e3 : wr.cell? ⟨gb, j * 13 + 3, none⟩ = some (.int .i64 E.days.first) := (HX.out.cell (p := ⟨gb, j * 13 + 3, none⟩) hgb).trans HEV.out.c3
            have e4 : wr.cell? ⟨gb, j * 13 + 4, none⟩ = some (.int .i64 E.days.last) := (HX.out.cell (p := ⟨gb, j * 13 + 4, none⟩) hgb).trans HEV.out.c4
            have e5 : wr.cell? ⟨gb, j * 13 + 5, none⟩ = some (.int .i64 E.days.every) := (HX.out.cell (p := ⟨gb, j * 13 + 5, none⟩) hgb).trans HEV.out.c5
            have e6 : wr.cell? ⟨gb, j * 13 + 6, none⟩ = some (.int .i64 E.days.wd) := (HX.out.cell (p := ⟨gb, j * 13 + 6, none⟩) hgb).trans HEV.out.c6
            have e7 : wr.cell? ⟨gb, j * 13 + 7, none⟩ = some (.slice q1 E.days.ex.length d1) := (HX.out.cell (p := ⟨gb, j * 13 + 7, none⟩) hgb).trans HEV.out.c7
            have e8 : wr.cell? ⟨gb, j * 13 + 8, none⟩ = some (.slice q2 E.days.xt.length d2) := (HX.out.cell (p := ⟨gb, j * 13 + 8, none⟩) hgb).trans HEV.out.c8
            have e9 : wr.cell? ⟨gb, j * 13 + 9, none⟩ = some (.int .i64 E.start) := (HX.out.cell (p := ⟨gb, j * 13 + 9, none⟩) hgb).trans HEV.out.c9
            have e10 : wr.cell? ⟨gb, j * 13 + 10, none⟩ = some (.int .i64 E.mins) := (HX.out.cell (p := ⟨gb, j * 13 + 10, none⟩) hgb).trans HEV.out.c10
            have e11 : wr.cell? ⟨gb, j * 13 + 11, none⟩ = some (.string E.summ) := (HX.out.cell (p := ⟨gb, j * 13 + 11, none⟩) hgb).trans HEV.out.c11
            have e12 : wr.cell? ⟨gb, j * 13 + 12, none⟩ = some (.string E.loc) := (HX.out.cell (p := ⟨gb, j * 13 + 12, none⟩) hgb).trans HEV.out.c12
            go_upto_region 23 with (fail)
            clear e0 e1 e2 e3 e4 e5 e6 e7 e8 e9 e10 e11 e12
            obtain ⟨XB, hXB⟩ : ∃ z, z = wr.heap.size := ⟨_, rfl⟩
            obtain ⟨wx, hwx⟩ : ∃ z, z = wr.alloc (.cells #[.string E.uid, .int .i64 E.seq, .bool E.canc, .int .i64 E.days.first, .int .i64 E.days.last, .int .i64 E.days.every, .int .i64 E.days.wd, .slice q1 E.days.ex.length d1, .slice q2 E.days.xt.length d2, .int .i64 E.start, .int .i64 E.mins, .string E.summ, .string E.loc] 104) := ⟨_, rfl⟩
            have HXB := Lib.hid (show Blk XB #[.string E.uid, .int .i64 E.seq, .bool E.canc, .int .i64 E.days.first, .int .i64 E.days.last, .int .i64 E.days.every, .int .i64 E.days.wd, .slice q1 E.days.ex.length d1, .slice q2 E.days.xt.length d2, .int .i64 E.start, .int .i64 E.mins, .string E.summ, .string E.loc] 104 wx from by rw [hwx, hXB]; exact Blk.new wr _ _)
            have HXX := Lib.hid (HX.out.trans ((show Below wr.heap.size wr wx from by rw [hwx]; exact below_box wr _).mono HX.out.size))
            rw [← hwx, ← hXB]
            clear hwx hXB a2 b2
            have a2 : wx.cell? ⟨A, 2, none⟩ = some (.slice pa la qa) := (HA8.out.below HXX.out HA8.out.lt).cell 2
            have x0 : wx.cell? ⟨XB, 0, none⟩ = some (.string E.uid) := HXB.out.cell 0
            obtain ⟨fk, hfk⟩ : ∃ fk : Int, fk = findFrom E.uid (makK g t ls M) 0 := ⟨_, rfl⟩
            have HFK := Lib.hid hfk
            have HF40 := Lib.hid (H40A.out wx HXX.out E.uid)
            rw [← hfk] at HF40
            clear hfk
            go_upto_region 24 with (go_at_call 40; (with_reducible refine HF40.out.mono ?_); rintro e wf ⟨rfl, hwf⟩; rw [hwf]; clear hwf wf)
            clear HF40
            go_cut [122] from 105 to 122 (fun s wy => s = .bool false ∧ Hid (Below wx.heap.size wx wy))
            case first =>
              have x1 : wx.cell? ⟨XB, 1, none⟩ = some (.int .i64 E.seq) := HXB.out.cell 1
              by_cases he : E.seq = (N : Int)
              · rw [he] at x1
                clear he
                have hb1 : ((N : Int) != (N : Int)) = false := by simp
                go_wp2_with fail
                go_quiet (fail)
                obtain ⟨wq, hq⟩ : ∃ z, z = wx.drewN nq := ⟨_, rfl⟩
                have HQ1 := Lib.hid (show Below wx.heap.size wx wq from by rw [hq]; exact ⟨rfl, rfl, rfl, Nat.le_refl _, fun k hk => rfl⟩)
                rw [← hq]
                clear hq nq a2 x0 x1
                go_wp2_with fail
                go_meet
                exact ⟨rfl, HQ1⟩
              have hb1 : (E.seq != (N : Int)) = true := by simpa using he
              have hb2 : (E.seq == (N : Int)) = false := by simpa using he
              have hEO : E ∈ makK g t ls M := by
                have h := HEM.out
                rw [HMN.out] at h
                exact seq_old (by have := HLS.out; have := HMN.out; omega) h (by have := HMN.out; intro q; exact he (by omega))
              clear he
              obtain ⟨k2, hf1, hf2⟩ := find_at (makK_asc g t ls M) hEO
              have hfke : fk = (k2 : Int) := by rw [HFK.out]; exact hf1
              subst hfke
              clear hEO hf1
              obtain ⟨q2, hq2, hqo⟩ : ∃ q2, ta[k2]? = some q2 ∧ q2.1 = E := by
                rw [← HMA.out, List.getElem?_map] at hf2
                cases hz2 : ta[k2]? with
                | none => rw [hz2] at hf2; cases hf2
                | some z => rw [hz2] at hf2; exact ⟨z, rfl, by simpa using hf2⟩
              obtain ⟨ga, hp, hga⟩ : ∃ gx, pa = some ⟨gx, 0, none⟩ ∧ gx < w8.heap.size := by
                have h := HRA8.out.row
                rcases h.2 with ⟨h1, h2⟩ | ⟨gx, cap, cur, hv, _, hgb, _⟩
                · have := HLa.out; have := (List.getElem?_eq_some_iff.1 hq2).1; omega
                · simp only [Value.slice.injEq] at hv; exact ⟨gx, hv.1, (Array.getElem?_eq_some_iff.1 hgb).1⟩
              subst hp
              obtain ⟨E2, u1, u2⟩ := q2
              simp only at hqo
              subst hqo
              have hlist := HKA.out.2 _ (List.mem_of_getElem? hq2)
              obtain ⟨-, hy1, hy2⟩ := HRA8.out.ref _ (List.mem_of_getElem? hq2)
              have hev := HRA8.out.ev k2 _ hq2
              obtain ⟨r1, s1, hu1⟩ := RowI.slice hy1
              obtain ⟨r2, s2, hu2⟩ := RowI.slice hy2
              simp only at hu1 hu2 hy1 hy2 hev hlist
              subst hu1 hu2
              have HY1 := Lib.hid hy1
              have HY2 := Lib.hid hy2
              have HEV2 := Lib.hid hev
              have hk2a : (k2 : Int) < (la : Int) := by have := HLa.out; have := (List.getElem?_eq_some_iff.1 hq2).1; omega
              have hk20 : (0 : Int) ≤ (k2 : Int) := by omega
              have hk2z : ¬ (k2 : Int) < 0 := by omega
              have hk2n : ((k2 : Int)).toNat = k2 := by omega
              have hdk : decide ((k2 : Int) < 0) = false := decide_eq_false hk2z
              clear hy1 hy2 hev hf2 hq2 a2 x0 x1
              have H41 := Lib.hid (show ∀ W, Below w8.heap.size w8 W → Calls Tryz.prog 41 #[.agg #[.string E2.uid, .int .i64 E2.seq, .bool E2.canc, .int .i64 E2.days.first, .int .i64 E2.days.last, .int .i64 E2.days.every, .int .i64 E2.days.wd, .slice r1 E2.days.ex.length s1, .slice r2 E2.days.xt.length s2, .int .i64 E2.start, .int .i64 E2.mins, .string E2.summ, .string E2.loc], .agg #[.string E2.uid, .int .i64 E2.seq, .bool E2.canc, .int .i64 E2.days.first, .int .i64 E2.days.last, .int .i64 E2.days.every, .int .i64 E2.days.wd, .slice q1 E2.days.ex.length d1, .slice q2 E2.days.xt.length d2, .int .i64 E2.start, .int .i64 E2.mins, .string E2.summ, .string E2.loc]] W fun e w' => e = .returned (.bool true) ∧ Below W.heap.size W w' from fun W hW => by
                have h := sameev71 E2 E2 W.heap.size W r1 r2 q1 q2 s1 s2 d1 d2 (Nat.le_refl _) (RowI.ao (ownsRow_below HY1.out hW)) (RowI.ao (ownsRow_below HY2.out hW)) (RowI.ao (ownsRow_below HX1.out hW)) (RowI.ao (ownsRow_below HX2.out hW)) (by omega) (by omega)
                unfold evVal evCells at h
                rw [decide_eq_true (show E2 = E2 from rfl)] at h
                exact h)
              refine wp_region_tail 14 (by kernel_rfl) (fun listed a x => ∃ (l0 l1 l2 l3 l4 l5 l6 l7 l8 l9 l10 l11 l12 l13 : Bool) (t105 t106 t107 t108 t109 t110 t111 t112 t113 t114 t115 t116 t117 t118 : Value), listed = #[l0, l1, l2, l3, l4, l5, l6, l7, l8, l9, l10, l11, l12, l13, false, false, false, false] ∧ a = ⟨(.slice ao len cap :: undef :: u2 :: .pointer (some ⟨b, 0, none⟩) :: .pointer (some ⟨G, 0, none⟩) :: .pointer (some ⟨T, 0, none⟩) :: .slice pu N cu :: .int .i64 (N : Int) :: .pointer (some ⟨A, 0, none⟩) :: .int .i64 0 :: .pointer (some ⟨B, 0, none⟩) :: .int .i64 0 :: .int .i64 (i : Int) :: .int .i64 (c : Int) :: .int .i64 (j : Int) :: .pointer (some ⟨XB, 0, none⟩) :: .int .i64 (k2 : Int) :: undef :: undef :: undef :: undef :: undef :: undef :: .slice ao len cap :: .bool true :: .bool false :: undef :: .slice ao len cap :: .pointer (some ⟨b, 0, none⟩) :: .pointer (some ⟨b, 0, none⟩) :: .agg #[.int .i64 g.days, .int .i64 g.slots, .int .i64 g.begin_, .int .i64 g.mins] :: .pointer (some ⟨b, 0, none⟩) :: .agg #[.int .i64 t.first, .int .i64 t.weeks, .slice pt t.hols.length ct] :: .pointer (some ⟨b, 0, none⟩) :: .agg #[.int .i64 g.days, .int .i64 g.slots, .int .i64 g.begin_, .int .i64 g.mins] :: .agg #[.int .i64 t.first, .int .i64 t.weeks, .slice pt t.hols.length ct] :: .slice pu N cu :: .slice pu N cu :: .int .i64 (N : Int) :: .int .i64 (N : Int) :: .bool false :: undef :: t42 :: t43 :: t44 :: t45 :: t46 :: t47 :: t48 :: t49 :: t50 :: t51 :: .tuple #[.agg #[.string ⟨#[120]⟩, .int .i64 (N : Int), .slice (some ⟨gb, 0, none⟩) lb qb], .int .i64 0] :: .agg #[.int .i64 g.days, .int .i64 g.slots, .int .i64 g.begin_, .int .i64 g.mins] :: .agg #[.int .i64 t.first, .int .i64 t.weeks, .slice pt t.hols.length ct] :: .slice pu N cu :: .tuple #[.agg #[.string ⟨#[120]⟩, .int .i64 (N : Int), .slice (some ⟨gb, 0, none⟩) lb qb], .int .i64 0] :: .agg #[.string ⟨#[120]⟩, .int .i64 (N : Int), .slice (some ⟨gb, 0, none⟩) lb qb] :: .int .i64 0 :: .int .i64 0 :: .bool false :: .bool false :: .int .i64 0 :: .bool false :: .bool false :: .bool false :: .pointer (some ⟨B, 1, none⟩) :: .int .i64 (N : Int) :: .int .i64 (N : Int) :: .bool false :: .bool false :: .int .i64 (i : Int) :: .pointer (some ⟨A, 2, none⟩) :: .slice (some ⟨ga, 0, none⟩) la qa :: .int .i64 (la : Int) :: .bool false :: u76 :: u77 :: u78 :: u79 :: u80 :: u81 :: u82 :: u83 :: u84 :: u85 :: u86 :: u87 :: .int .i64 (j : Int) :: .pointer (some ⟨B, 2, none⟩) :: .slice (some ⟨gb, 0, none⟩) lb qb :: .int .i64 (lb : Int) :: .bool true :: u93 :: u94 :: .pointer (some ⟨B, 2, none⟩) :: .slice (some ⟨gb, 0, none⟩) lb qb :: .int .i64 (j : Int) :: .pointer (some ⟨gb, j * 13, none⟩) :: .agg #[.string E2.uid, .int .i64 E2.seq, .bool E2.canc, .int .i64 E2.days.first, .int .i64 E2.days.last, .int .i64 E2.days.every, .int .i64 E2.days.wd, .slice q1 E2.days.ex.length d1, .slice q2 E2.days.xt.length d2, .int .i64 E2.start, .int .i64 E2.mins, .string E2.summ, .string E2.loc] :: .pointer (some ⟨A, 2, none⟩) :: .slice (some ⟨ga, 0, none⟩) la qa :: .pointer (some ⟨XB, 0, none⟩) :: .string E2.uid :: .int .i64 (k2 : Int) :: t105 :: t106 :: t107 :: t108 :: t109 :: t110 :: t111 :: t112 :: t113 :: t114 :: t115 :: t116 :: t117 :: t118 :: u119 :: u120 :: u121 :: u122 :: u123 :: u124 :: u125 :: u126 :: u127 :: u128 :: u129 :: u130 :: u131 :: u132 :: u133 :: u134 :: u135 :: u136 :: u137 :: u138 :: u139 :: u140 :: u141 :: u142 :: u143 :: u144 :: u145 :: undef :: undef :: undef :: undef :: undef :: undef :: undef :: undef :: undef :: undef :: undef :: undef :: undef :: undef :: undef :: undef :: undef :: undef :: undef :: undef :: undef :: undef :: undef :: undef :: undef :: undef :: undef :: undef :: undef :: undef :: undef :: undef :: undef :: undef :: undef :: undef :: undef :: undef :: undef :: undef :: undef :: undef :: undef :: undef :: undef :: undef :: undef :: undef :: undef :: undef :: undef :: undef :: undef :: undef :: undef :: undef :: undef :: undef :: undef :: undef :: undef :: undef :: undef :: undef :: undef :: undef :: undef :: undef :: undef :: undef :: undef :: undef :: undef :: undef :: undef :: undef :: undef :: undef :: undef :: undef :: []).toArray, []⟩ ∧ Hid (l0 = true → t105 = .pointer (some ⟨XB, 1, none⟩)) ∧ Hid (l1 = true → t106 = .int .i64 E2.seq) ∧ Hid (l2 = true → t107 = .int .i64 (N : Int)) ∧ Hid (l3 = true → t108 = .bool true) ∧ Hid (l4 = true → t109 = .bool true) ∧ Hid (l5 = true → t110 = .int .i64 (k2 : Int)) ∧ Hid (l6 = true → t111 = .bool false) ∧ Hid (l7 = true → t112 = .bool false) ∧ Hid (l8 = true → t113 = .pointer (some ⟨A, 2, none⟩)) ∧ Hid (l9 = true → t114 = .slice (some ⟨ga, 0, none⟩) la qa) ∧ Hid (l10 = true → t115 = .int .i64 (k2 : Int)) ∧ Hid (l11 = true → t116 = .pointer (some ⟨ga, k2 * 13, none⟩)) ∧ Hid (l12 = true → t117 = .agg #[.string E2.uid, .int .i64 E2.seq, .bool E2.canc, .int .i64 E2.days.first, .int .i64 E2.days.last, .int .i64 E2.days.every, .int .i64 E2.days.wd, .slice r1 E2.days.ex.length s1, .slice r2 E2.days.xt.length s2, .int .i64 E2.start, .int .i64 E2.mins, .string E2.summ, .string E2.loc]) ∧ Hid (l13 = true → t118 = .agg #[.string E2.uid, .int .i64 E2.seq, .bool E2.canc, .int .i64 E2.days.first, .int .i64 E2.days.last, .int .i64 E2.days.every, .int .i64 E2.days.wd, .slice q1 E2.days.ex.length d1, .slice q2 E2.days.xt.length d2, .int .i64 E2.start, .int .i64 E2.mins, .string E2.summ, .string E2.loc]) ∧ Hid (Made wx x)) (by decide) (by kernel_rfl) (by kernel_rfl) ?_ ?_ ?_ ?_
              · exact ⟨false, false, false, false, false, false, false, false, false, false, false, false, false, false, _, _, _, _, _, _, _, _, _, _, _, _, _, _, rfl, rfl, Lib.hid (fun h => by cases h), Lib.hid (fun h => by cases h), Lib.hid (fun h => by cases h), Lib.hid (fun h => by cases h), Lib.hid (fun h => by cases h), Lib.hid (fun h => by cases h), Lib.hid (fun h => by cases h), Lib.hid (fun h => by cases h), Lib.hid (fun h => by cases h), Lib.hid (fun h => by cases h), Lib.hid (fun h => by cases h), Lib.hid (fun h => by cases h), Lib.hid (fun h => by cases h), Lib.hid (fun h => by cases h), Lib.hid (Made.start wx)⟩
              · intro listed a x hj
                obtain ⟨l0, hj⟩ := hj
                obtain ⟨l1, hj⟩ := hj
                obtain ⟨l2, hj⟩ := hj
                obtain ⟨l3, hj⟩ := hj
                obtain ⟨l4, hj⟩ := hj
                obtain ⟨l5, hj⟩ := hj
                obtain ⟨l6, hj⟩ := hj
                obtain ⟨l7, hj⟩ := hj
                obtain ⟨l8, hj⟩ := hj
                obtain ⟨l9, hj⟩ := hj
                obtain ⟨l10, hj⟩ := hj
                obtain ⟨l11, hj⟩ := hj
                obtain ⟨l12, hj⟩ := hj
                obtain ⟨l13, hj⟩ := hj
                obtain ⟨t105, hj⟩ := hj
                obtain ⟨t106, hj⟩ := hj
                obtain ⟨t107, hj⟩ := hj
                obtain ⟨t108, hj⟩ := hj
                obtain ⟨t109, hj⟩ := hj
                obtain ⟨t110, hj⟩ := hj
                obtain ⟨t111, hj⟩ := hj
                obtain ⟨t112, hj⟩ := hj
                obtain ⟨t113, hj⟩ := hj
                obtain ⟨t114, hj⟩ := hj
                obtain ⟨t115, hj⟩ := hj
                obtain ⟨t116, hj⟩ := hj
                obtain ⟨t117, hj⟩ := hj
                obtain ⟨t118, hj⟩ := hj
                obtain ⟨h1, -⟩ := hj
                subst h1
                exact ⟨rfl, fun k h1 h2 => by (have h2 : k < 18 := h2); rcases (show k = 14 ∨ k = 15 ∨ k = 16 ∨ k = 17 by omega) with rfl | rfl | rfl | rfl <;> rfl⟩
              · intro listed a x i hj hlt hu haf
                obtain ⟨l0, hj⟩ := hj
                obtain ⟨l1, hj⟩ := hj
                obtain ⟨l2, hj⟩ := hj
                obtain ⟨l3, hj⟩ := hj
                obtain ⟨l4, hj⟩ := hj
                obtain ⟨l5, hj⟩ := hj
                obtain ⟨l6, hj⟩ := hj
                obtain ⟨l7, hj⟩ := hj
                obtain ⟨l8, hj⟩ := hj
                obtain ⟨l9, hj⟩ := hj
                obtain ⟨l10, hj⟩ := hj
                obtain ⟨l11, hj⟩ := hj
                obtain ⟨l12, hj⟩ := hj
                obtain ⟨l13, hj⟩ := hj
                obtain ⟨t105, hj⟩ := hj
                obtain ⟨t106, hj⟩ := hj
                obtain ⟨t107, hj⟩ := hj
                obtain ⟨t108, hj⟩ := hj
                obtain ⟨t109, hj⟩ := hj
                obtain ⟨t110, hj⟩ := hj
                obtain ⟨t111, hj⟩ := hj
                obtain ⟨t112, hj⟩ := hj
                obtain ⟨t113, hj⟩ := hj
                obtain ⟨t114, hj⟩ := hj
                obtain ⟨t115, hj⟩ := hj
                obtain ⟨t116, hj⟩ := hj
                obtain ⟨t117, hj⟩ := hj
                obtain ⟨t118, hj⟩ := hj
                obtain ⟨hl_, hj⟩ := hj
                obtain ⟨ha_, hj⟩ := hj
                obtain ⟨H0, hj⟩ := hj
                obtain ⟨H1, hj⟩ := hj
                obtain ⟨H2, hj⟩ := hj
                obtain ⟨H3, hj⟩ := hj
                obtain ⟨H4, hj⟩ := hj
                obtain ⟨H5, hj⟩ := hj
                obtain ⟨H6, hj⟩ := hj
                obtain ⟨H7, hj⟩ := hj
                obtain ⟨H8, hj⟩ := hj
                obtain ⟨H9, hj⟩ := hj
                obtain ⟨H10, hj⟩ := hj
                obtain ⟨H11, hj⟩ := hj
                obtain ⟨H12, hj⟩ := hj
                obtain ⟨H13, hj⟩ := hj
                have HS := hj
                clear hj
                subst hl_
                subst ha_
                rcases (show ∀ i : Nat, i < 14 → (i = 0 ∨ i = 1 ∨ i = 2 ∨ i = 3 ∨ i = 4 ∨ i = 5 ∨ i = 6 ∨ i = 7 ∨ i = 8 ∨ i = 9 ∨ i = 10 ∨ i = 11 ∨ i = 12 ∨ i = 13) by decide) i hlt with rfl | rfl | rfl | rfl | rfl | rfl | rfl | rfl | rfl | rfl | rfl | rfl | rfl | rfl
                · have haf := haf _ rfl
                  clear haf
                  have hu : l0 = false := hu
                  refine wpOp_of_list_any rfl fun QQ hQ => ?_
                  have hQQ := Lib.hid hQ
                  clear hQ
                  simp only [List.getElem_toArray, List.getElem_cons_zero]
                  go_wp2_with fail
                  exact hQQ.out _ _ ⟨true, l1, l2, l3, l4, l5, l6, l7, l8, l9, l10, l11, l12, l13, _, _, _, _, _, _, _, _, _, _, _, _, _, _, rfl, rfl, Lib.hid (fun _ => rfl), H1, H2, H3, H4, H5, H6, H7, H8, H9, H10, H11, H12, H13, HS⟩
                · have haf := haf _ rfl
                  have q0 : l0 = true := haf ⟨0, Go.Ground.data⟩ (by simp) rfl
                  clear haf
                  have hu : l1 = false := hu
                  have e0 := (H0.out q0)
                  subst e0
                  clear H0
                  have hc : x.cell? ⟨XB, 1, none⟩ = some (.int .i64 E2.seq) := (HXB.out.below HS.out.below HXB.out.lt).cell 1
                  refine wpOp_of_list_any rfl fun QQ hQ => ?_
                  have hQQ := Lib.hid hQ
                  clear hQ
                  simp only [List.getElem_toArray, List.getElem_cons_zero, List.getElem_cons_succ]
                  go_wp2_with fail
                  exact hQQ.out _ _ ⟨l0, true, l2, l3, l4, l5, l6, l7, l8, l9, l10, l11, l12, l13, _, _, _, _, _, _, _, _, _, _, _, _, _, _, rfl, rfl, Lib.hid (fun _ => rfl), Lib.hid (fun _ => rfl), H2, H3, H4, H5, H6, H7, H8, H9, H10, H11, H12, H13, HS⟩
                · have haf := haf _ rfl
                  clear haf
                  have hu : l2 = false := hu
                  refine wpOp_of_list_any rfl fun QQ hQ => ?_
                  have hQQ := Lib.hid hQ
                  clear hQ
                  simp only [List.getElem_toArray, List.getElem_cons_zero, List.getElem_cons_succ]
                  go_wp2_with fail
                  exact hQQ.out _ _ ⟨l0, l1, true, l3, l4, l5, l6, l7, l8, l9, l10, l11, l12, l13, _, _, _, _, _, _, _, _, _, _, _, _, _, _, rfl, rfl, H0, H1, Lib.hid (fun _ => rfl), H3, H4, H5, H6, H7, H8, H9, H10, H11, H12, H13, HS⟩
                · have haf := haf _ rfl
                  have q1 : l1 = true := haf ⟨1, Go.Ground.data⟩ (by simp) rfl
                  have q2 : l2 = true := haf ⟨2, Go.Ground.data⟩ (by simp) rfl
                  clear haf
                  have hu : l3 = false := hu
                  have e1 := (H1.out q1)
                  subst e1
                  clear H1
                  have e2 := (H2.out q2)
                  subst e2
                  clear H2
                  refine wpOp_of_list_any rfl fun QQ hQ => ?_
                  have hQQ := Lib.hid hQ
                  clear hQ
                  simp only [List.getElem_toArray, List.getElem_cons_zero, List.getElem_cons_succ]
                  go_wp2_with fail
                  exact hQQ.out _ _ ⟨l0, l1, l2, true, l4, l5, l6, l7, l8, l9, l10, l11, l12, l13, _, _, _, _, _, _, _, _, _, _, _, _, _, _, rfl, rfl, H0, Lib.hid (fun _ => rfl), Lib.hid (fun _ => rfl), Lib.hid (fun _ => rfl), H4, H5, H6, H7, H8, H9, H10, H11, H12, H13, HS⟩
                · have haf := haf _ rfl
                  have q3 : l3 = true := haf ⟨3, Go.Ground.data⟩ (by simp) rfl
                  clear haf
                  have hu : l4 = false := hu
                  have e3 := (H3.out q3)
                  subst e3
                  clear H3
                  refine wpOp_of_list_any rfl fun QQ hQ => ?_
                  have hQQ := Lib.hid hQ
                  clear hQ
                  simp only [List.getElem_toArray, List.getElem_cons_zero, List.getElem_cons_succ]
                  go_wp2_with fail
                  exact hQQ.out _ _ ⟨l0, l1, l2, l3, true, l5, l6, l7, l8, l9, l10, l11, l12, l13, _, _, _, _, _, _, _, _, _, _, _, _, _, _, rfl, rfl, H0, H1, H2, Lib.hid (fun _ => rfl), Lib.hid (fun _ => rfl), H5, H6, H7, H8, H9, H10, H11, H12, H13, HS⟩
                · have haf := haf _ rfl
                  have q4 : l4 = true := haf ⟨4, Go.Ground.guard⟩ (by simp) rfl
                  clear haf
                  have hu : l5 = false := hu
                  have e4 := (H4.out q4)
                  subst e4
                  clear H4
                  refine wpOp_of_list_any rfl fun QQ hQ => ?_
                  have hQQ := Lib.hid hQ
                  clear hQ
                  simp only [List.getElem_toArray, List.getElem_cons_zero, List.getElem_cons_succ]
                  go_wp2_with fail
                  exact hQQ.out _ _ ⟨l0, l1, l2, l3, l4, true, l6, l7, l8, l9, l10, l11, l12, l13, _, _, _, _, _, _, _, _, _, _, _, _, _, _, rfl, rfl, H0, H1, H2, H3, Lib.hid (fun _ => rfl), Lib.hid (fun _ => rfl), H6, H7, H8, H9, H10, H11, H12, H13, HS⟩
                · have haf := haf _ rfl
                  have q5 : l5 = true := haf ⟨5, Go.Ground.data⟩ (by simp) rfl
                  have q4 : l4 = true := haf ⟨4, Go.Ground.guard⟩ (by simp) rfl
                  clear haf
                  have hu : l6 = false := hu
                  have e5 := (H5.out q5)
                  subst e5
                  clear H5
                  have e4 := (H4.out q4)
                  subst e4
                  clear H4
                  refine wpOp_of_list_any rfl fun QQ hQ => ?_
                  have hQQ := Lib.hid hQ
                  clear hQ
                  simp only [List.getElem_toArray, List.getElem_cons_zero, List.getElem_cons_succ]
                  go_wp2_with fail
                  exact hQQ.out _ _ ⟨l0, l1, l2, l3, l4, l5, true, l7, l8, l9, l10, l11, l12, l13, _, _, _, _, _, _, _, _, _, _, _, _, _, _, rfl, rfl, H0, H1, H2, H3, Lib.hid (fun _ => rfl), Lib.hid (fun _ => rfl), Lib.hid (fun _ => rfl), H7, H8, H9, H10, H11, H12, H13, HS⟩
                · have haf := haf _ rfl
                  have q6 : l6 = true := haf ⟨6, Go.Ground.data⟩ (by simp) rfl
                  have q4 : l4 = true := haf ⟨4, Go.Ground.chain⟩ (by simp) rfl
                  clear haf
                  have hu : l7 = false := hu
                  have e6 := (H6.out q6)
                  subst e6
                  clear H6
                  have e4 := (H4.out q4)
                  subst e4
                  clear H4
                  refine wpOp_of_list_any rfl fun QQ hQ => ?_
                  have hQQ := Lib.hid hQ
                  clear hQ
                  simp only [List.getElem_toArray, List.getElem_cons_zero, List.getElem_cons_succ]
                  go_wp2_with fail
                  exact hQQ.out _ _ ⟨l0, l1, l2, l3, l4, l5, l6, true, l8, l9, l10, l11, l12, l13, _, _, _, _, _, _, _, _, _, _, _, _, _, _, rfl, rfl, H0, H1, H2, H3, Lib.hid (fun _ => rfl), H5, Lib.hid (fun _ => rfl), Lib.hid (fun _ => rfl), H8, H9, H10, H11, H12, H13, HS⟩
                · have haf := haf _ rfl
                  have q7 : l7 = true := haf ⟨7, Go.Ground.guard⟩ (by simp) rfl
                  clear haf
                  have hu : l8 = false := hu
                  have e7 := (H7.out q7)
                  subst e7
                  clear H7
                  refine wpOp_of_list_any rfl fun QQ hQ => ?_
                  have hQQ := Lib.hid hQ
                  clear hQ
                  simp only [List.getElem_toArray, List.getElem_cons_zero, List.getElem_cons_succ]
                  go_wp2_with fail
                  exact hQQ.out _ _ ⟨l0, l1, l2, l3, l4, l5, l6, l7, true, l9, l10, l11, l12, l13, _, _, _, _, _, _, _, _, _, _, _, _, _, _, rfl, rfl, H0, H1, H2, H3, H4, H5, H6, Lib.hid (fun _ => rfl), Lib.hid (fun _ => rfl), H9, H10, H11, H12, H13, HS⟩
                · have haf := haf _ rfl
                  have q8 : l8 = true := haf ⟨8, Go.Ground.data⟩ (by simp) rfl
                  have q7 : l7 = true := haf ⟨7, Go.Ground.guard⟩ (by simp) rfl
                  clear haf
                  have hu : l9 = false := hu
                  have e8 := (H8.out q8)
                  subst e8
                  clear H8
                  have e7 := (H7.out q7)
                  subst e7
                  clear H7
                  have hc : x.cell? ⟨A, 2, none⟩ = some (.slice (some ⟨ga, 0, none⟩) la qa) := (HA8.out.below (HXX.out.trans (HS.out.below.mono HXX.out.size)) HA8.out.lt).cell 2
                  refine wpOp_of_list_any rfl fun QQ hQ => ?_
                  have hQQ := Lib.hid hQ
                  clear hQ
                  simp only [List.getElem_toArray, List.getElem_cons_zero, List.getElem_cons_succ]
                  go_wp2_with fail
                  exact hQQ.out _ _ ⟨l0, l1, l2, l3, l4, l5, l6, l7, l8, true, l10, l11, l12, l13, _, _, _, _, _, _, _, _, _, _, _, _, _, _, rfl, rfl, H0, H1, H2, H3, H4, H5, H6, Lib.hid (fun _ => rfl), Lib.hid (fun _ => rfl), Lib.hid (fun _ => rfl), H10, H11, H12, H13, HS⟩
                · have haf := haf _ rfl
                  have q7 : l7 = true := haf ⟨7, Go.Ground.guard⟩ (by simp) rfl
                  clear haf
                  have hu : l10 = false := hu
                  have e7 := (H7.out q7)
                  subst e7
                  clear H7
                  refine wpOp_of_list_any rfl fun QQ hQ => ?_
                  have hQQ := Lib.hid hQ
                  clear hQ
                  simp only [List.getElem_toArray, List.getElem_cons_zero, List.getElem_cons_succ]
                  go_wp2_with fail
                  exact hQQ.out _ _ ⟨l0, l1, l2, l3, l4, l5, l6, l7, l8, l9, true, l11, l12, l13, _, _, _, _, _, _, _, _, _, _, _, _, _, _, rfl, rfl, H0, H1, H2, H3, H4, H5, H6, Lib.hid (fun _ => rfl), H8, H9, Lib.hid (fun _ => rfl), H11, H12, H13, HS⟩
                · have haf := haf _ rfl
                  have q9 : l9 = true := haf ⟨9, Go.Ground.data⟩ (by simp) rfl
                  have q10 : l10 = true := haf ⟨10, Go.Ground.data⟩ (by simp) rfl
                  have q7 : l7 = true := haf ⟨7, Go.Ground.guard⟩ (by simp) rfl
                  clear haf
                  have hu : l11 = false := hu
                  have e9 := (H9.out q9)
                  subst e9
                  clear H9
                  have e10 := (H10.out q10)
                  subst e10
                  clear H10
                  have e7 := (H7.out q7)
                  subst e7
                  clear H7
                  refine wpOp_of_list_any rfl fun QQ hQ => ?_
                  have hQQ := Lib.hid hQ
                  clear hQ
                  simp only [List.getElem_toArray, List.getElem_cons_zero, List.getElem_cons_succ]
                  go_wp2_with fail
                  exact hQQ.out _ _ ⟨l0, l1, l2, l3, l4, l5, l6, l7, l8, l9, l10, true, l12, l13, _, _, _, _, _, _, _, _, _, _, _, _, _, _, rfl, rfl, H0, H1, H2, H3, H4, H5, H6, Lib.hid (fun _ => rfl), H8, Lib.hid (fun _ => rfl), Lib.hid (fun _ => rfl), Lib.hid (fun _ => rfl), H12, H13, HS⟩
                · have haf := haf _ rfl
                  have q11 : l11 = true := haf ⟨11, Go.Ground.data⟩ (by simp) rfl
                  have q7 : l7 = true := haf ⟨7, Go.Ground.guard⟩ (by simp) rfl
                  clear haf
                  have hu : l12 = false := hu
                  have e11 := (H11.out q11)
                  subst e11
                  clear H11
                  have e7 := (H7.out q7)
                  subst e7
                  clear H7
                  have hc0 : x.cell? ⟨ga, k2 * 13, none⟩ = some (.string E2.uid) := ((HXX.out.trans (HS.out.below.mono HXX.out.size)).cell (p := ⟨ga, k2 * 13, none⟩) hga).trans HEV2.out.c0
                  have hc1 : x.cell? ⟨ga, k2 * 13 + 1, none⟩ = some (.int .i64 E2.seq) := ((HXX.out.trans (HS.out.below.mono HXX.out.size)).cell (p := ⟨ga, k2 * 13 + 1, none⟩) hga).trans HEV2.out.c1
                  have hc2 : x.cell? ⟨ga, k2 * 13 + 2, none⟩ = some (.bool E2.canc) := ((HXX.out.trans (HS.out.below.mono HXX.out.size)).cell (p := ⟨ga, k2 * 13 + 2, none⟩) hga).trans HEV2.out.c2
                  have hc3 : x.cell? ⟨ga, k2 * 13 + 3, none⟩ = some (.int .i64 E2.days.first) := ((HXX.out.trans (HS.out.below.mono HXX.out.size)).cell (p := ⟨ga, k2 * 13 + 3, none⟩) hga).trans HEV2.out.c3
                  have hc4 : x.cell? ⟨ga, k2 * 13 + 4, none⟩ = some (.int .i64 E2.days.last) := ((HXX.out.trans (HS.out.below.mono HXX.out.size)).cell (p := ⟨ga, k2 * 13 + 4, none⟩) hga).trans HEV2.out.c4
                  have hc5 : x.cell? ⟨ga, k2 * 13 + 5, none⟩ = some (.int .i64 E2.days.every) := ((HXX.out.trans (HS.out.below.mono HXX.out.size)).cell (p := ⟨ga, k2 * 13 + 5, none⟩) hga).trans HEV2.out.c5
                  have hc6 : x.cell? ⟨ga, k2 * 13 + 6, none⟩ = some (.int .i64 E2.days.wd) := ((HXX.out.trans (HS.out.below.mono HXX.out.size)).cell (p := ⟨ga, k2 * 13 + 6, none⟩) hga).trans HEV2.out.c6
                  have hc7 : x.cell? ⟨ga, k2 * 13 + 7, none⟩ = some (.slice r1 E2.days.ex.length s1) := ((HXX.out.trans (HS.out.below.mono HXX.out.size)).cell (p := ⟨ga, k2 * 13 + 7, none⟩) hga).trans HEV2.out.c7
                  have hc8 : x.cell? ⟨ga, k2 * 13 + 8, none⟩ = some (.slice r2 E2.days.xt.length s2) := ((HXX.out.trans (HS.out.below.mono HXX.out.size)).cell (p := ⟨ga, k2 * 13 + 8, none⟩) hga).trans HEV2.out.c8
                  have hc9 : x.cell? ⟨ga, k2 * 13 + 9, none⟩ = some (.int .i64 E2.start) := ((HXX.out.trans (HS.out.below.mono HXX.out.size)).cell (p := ⟨ga, k2 * 13 + 9, none⟩) hga).trans HEV2.out.c9
                  have hc10 : x.cell? ⟨ga, k2 * 13 + 10, none⟩ = some (.int .i64 E2.mins) := ((HXX.out.trans (HS.out.below.mono HXX.out.size)).cell (p := ⟨ga, k2 * 13 + 10, none⟩) hga).trans HEV2.out.c10
                  have hc11 : x.cell? ⟨ga, k2 * 13 + 11, none⟩ = some (.string E2.summ) := ((HXX.out.trans (HS.out.below.mono HXX.out.size)).cell (p := ⟨ga, k2 * 13 + 11, none⟩) hga).trans HEV2.out.c11
                  have hc12 : x.cell? ⟨ga, k2 * 13 + 12, none⟩ = some (.string E2.loc) := ((HXX.out.trans (HS.out.below.mono HXX.out.size)).cell (p := ⟨ga, k2 * 13 + 12, none⟩) hga).trans HEV2.out.c12
                  refine wpOp_of_list_any rfl fun QQ hQ => ?_
                  have hQQ := Lib.hid hQ
                  clear hQ
                  simp only [List.getElem_toArray, List.getElem_cons_zero, List.getElem_cons_succ]
                  go_wp2_with fail
                  exact hQQ.out _ _ ⟨l0, l1, l2, l3, l4, l5, l6, l7, l8, l9, l10, l11, true, l13, _, _, _, _, _, _, _, _, _, _, _, _, _, _, rfl, rfl, H0, H1, H2, H3, H4, H5, H6, Lib.hid (fun _ => rfl), H8, H9, H10, Lib.hid (fun _ => rfl), Lib.hid (fun _ => rfl), H13, HS⟩
                · have haf := haf _ rfl
                  have q7 : l7 = true := haf ⟨7, Go.Ground.guard⟩ (by simp) rfl
                  clear haf
                  have hu : l13 = false := hu
                  have e7 := (H7.out q7)
                  subst e7
                  clear H7
                  have hc0 : x.cell? ⟨XB, 0, none⟩ = some (.string E2.uid) := (HXB.out.below HS.out.below HXB.out.lt).cell 0
                  have hc1 : x.cell? ⟨XB, 1, none⟩ = some (.int .i64 E2.seq) := (HXB.out.below HS.out.below HXB.out.lt).cell 1
                  have hc2 : x.cell? ⟨XB, 2, none⟩ = some (.bool E2.canc) := (HXB.out.below HS.out.below HXB.out.lt).cell 2
                  have hc3 : x.cell? ⟨XB, 3, none⟩ = some (.int .i64 E2.days.first) := (HXB.out.below HS.out.below HXB.out.lt).cell 3
                  have hc4 : x.cell? ⟨XB, 4, none⟩ = some (.int .i64 E2.days.last) := (HXB.out.below HS.out.below HXB.out.lt).cell 4
                  have hc5 : x.cell? ⟨XB, 5, none⟩ = some (.int .i64 E2.days.every) := (HXB.out.below HS.out.below HXB.out.lt).cell 5
                  have hc6 : x.cell? ⟨XB, 6, none⟩ = some (.int .i64 E2.days.wd) := (HXB.out.below HS.out.below HXB.out.lt).cell 6
                  have hc7 : x.cell? ⟨XB, 7, none⟩ = some (.slice q1 E2.days.ex.length d1) := (HXB.out.below HS.out.below HXB.out.lt).cell 7
                  have hc8 : x.cell? ⟨XB, 8, none⟩ = some (.slice q2 E2.days.xt.length d2) := (HXB.out.below HS.out.below HXB.out.lt).cell 8
                  have hc9 : x.cell? ⟨XB, 9, none⟩ = some (.int .i64 E2.start) := (HXB.out.below HS.out.below HXB.out.lt).cell 9
                  have hc10 : x.cell? ⟨XB, 10, none⟩ = some (.int .i64 E2.mins) := (HXB.out.below HS.out.below HXB.out.lt).cell 10
                  have hc11 : x.cell? ⟨XB, 11, none⟩ = some (.string E2.summ) := (HXB.out.below HS.out.below HXB.out.lt).cell 11
                  have hc12 : x.cell? ⟨XB, 12, none⟩ = some (.string E2.loc) := (HXB.out.below HS.out.below HXB.out.lt).cell 12
                  refine wpOp_of_list_any rfl fun QQ hQ => ?_
                  have hQQ := Lib.hid hQ
                  clear hQ
                  simp only [List.getElem_toArray, List.getElem_cons_zero, List.getElem_cons_succ]
                  go_wp2_with fail
                  exact hQQ.out _ _ ⟨l0, l1, l2, l3, l4, l5, l6, l7, l8, l9, l10, l11, l12, true, _, _, _, _, _, _, _, _, _, _, _, _, _, _, rfl, rfl, H0, H1, H2, H3, H4, H5, H6, Lib.hid (fun _ => rfl), H8, H9, H10, H11, H12, Lib.hid (fun _ => rfl), HS⟩
              · intro listed a x hj hall
                obtain ⟨l0, hj⟩ := hj
                obtain ⟨l1, hj⟩ := hj
                obtain ⟨l2, hj⟩ := hj
                obtain ⟨l3, hj⟩ := hj
                obtain ⟨l4, hj⟩ := hj
                obtain ⟨l5, hj⟩ := hj
                obtain ⟨l6, hj⟩ := hj
                obtain ⟨l7, hj⟩ := hj
                obtain ⟨l8, hj⟩ := hj
                obtain ⟨l9, hj⟩ := hj
                obtain ⟨l10, hj⟩ := hj
                obtain ⟨l11, hj⟩ := hj
                obtain ⟨l12, hj⟩ := hj
                obtain ⟨l13, hj⟩ := hj
                obtain ⟨t105, hj⟩ := hj
                obtain ⟨t106, hj⟩ := hj
                obtain ⟨t107, hj⟩ := hj
                obtain ⟨t108, hj⟩ := hj
                obtain ⟨t109, hj⟩ := hj
                obtain ⟨t110, hj⟩ := hj
                obtain ⟨t111, hj⟩ := hj
                obtain ⟨t112, hj⟩ := hj
                obtain ⟨t113, hj⟩ := hj
                obtain ⟨t114, hj⟩ := hj
                obtain ⟨t115, hj⟩ := hj
                obtain ⟨t116, hj⟩ := hj
                obtain ⟨t117, hj⟩ := hj
                obtain ⟨t118, hj⟩ := hj
                obtain ⟨hl_, hj⟩ := hj
                obtain ⟨ha_, hj⟩ := hj
                obtain ⟨H0, hj⟩ := hj
                obtain ⟨H1, hj⟩ := hj
                obtain ⟨H2, hj⟩ := hj
                obtain ⟨H3, hj⟩ := hj
                obtain ⟨H4, hj⟩ := hj
                obtain ⟨H5, hj⟩ := hj
                obtain ⟨H6, hj⟩ := hj
                obtain ⟨H7, hj⟩ := hj
                obtain ⟨H8, hj⟩ := hj
                obtain ⟨H9, hj⟩ := hj
                obtain ⟨H10, hj⟩ := hj
                obtain ⟨H11, hj⟩ := hj
                obtain ⟨H12, hj⟩ := hj
                obtain ⟨H13, hj⟩ := hj
                have HS := hj
                clear hj
                subst hl_
                subst ha_
                have q4 : l4 = true := hall 4 (by omega)
                have q7 : l7 = true := hall 7 (by omega)
                have q12 : l12 = true := hall 12 (by omega)
                have q13 : l13 = true := hall 13 (by omega)
                clear hall
                have e4 := (H4.out q4)
                subst e4
                have e7 := (H7.out q7)
                subst e7
                have e12 := (H12.out q12)
                subst e12
                have e13 := (H13.out q13)
                subst e13
                refine tail_any (fun a x => ∃ (t105 t106 t107 t108 t109 t110 t111 t112 t113 t114 t115 t116 t117 t118 t119 t120 t121 t122 : Value), a = ⟨(.slice ao len cap :: undef :: u2 :: .pointer (some ⟨b, 0, none⟩) :: .pointer (some ⟨G, 0, none⟩) :: .pointer (some ⟨T, 0, none⟩) :: .slice pu N cu :: .int .i64 (N : Int) :: .pointer (some ⟨A, 0, none⟩) :: .int .i64 0 :: .pointer (some ⟨B, 0, none⟩) :: .int .i64 0 :: .int .i64 (i : Int) :: .int .i64 (c : Int) :: .int .i64 (j : Int) :: .pointer (some ⟨XB, 0, none⟩) :: .int .i64 (k2 : Int) :: undef :: undef :: undef :: undef :: undef :: undef :: .slice ao len cap :: .bool true :: .bool false :: undef :: .slice ao len cap :: .pointer (some ⟨b, 0, none⟩) :: .pointer (some ⟨b, 0, none⟩) :: .agg #[.int .i64 g.days, .int .i64 g.slots, .int .i64 g.begin_, .int .i64 g.mins] :: .pointer (some ⟨b, 0, none⟩) :: .agg #[.int .i64 t.first, .int .i64 t.weeks, .slice pt t.hols.length ct] :: .pointer (some ⟨b, 0, none⟩) :: .agg #[.int .i64 g.days, .int .i64 g.slots, .int .i64 g.begin_, .int .i64 g.mins] :: .agg #[.int .i64 t.first, .int .i64 t.weeks, .slice pt t.hols.length ct] :: .slice pu N cu :: .slice pu N cu :: .int .i64 (N : Int) :: .int .i64 (N : Int) :: .bool false :: undef :: t42 :: t43 :: t44 :: t45 :: t46 :: t47 :: t48 :: t49 :: t50 :: t51 :: .tuple #[.agg #[.string ⟨#[120]⟩, .int .i64 (N : Int), .slice (some ⟨gb, 0, none⟩) lb qb], .int .i64 0] :: .agg #[.int .i64 g.days, .int .i64 g.slots, .int .i64 g.begin_, .int .i64 g.mins] :: .agg #[.int .i64 t.first, .int .i64 t.weeks, .slice pt t.hols.length ct] :: .slice pu N cu :: .tuple #[.agg #[.string ⟨#[120]⟩, .int .i64 (N : Int), .slice (some ⟨gb, 0, none⟩) lb qb], .int .i64 0] :: .agg #[.string ⟨#[120]⟩, .int .i64 (N : Int), .slice (some ⟨gb, 0, none⟩) lb qb] :: .int .i64 0 :: .int .i64 0 :: .bool false :: .bool false :: .int .i64 0 :: .bool false :: .bool false :: .bool false :: .pointer (some ⟨B, 1, none⟩) :: .int .i64 (N : Int) :: .int .i64 (N : Int) :: .bool false :: .bool false :: .int .i64 (i : Int) :: .pointer (some ⟨A, 2, none⟩) :: .slice (some ⟨ga, 0, none⟩) la qa :: .int .i64 (la : Int) :: .bool false :: u76 :: u77 :: u78 :: u79 :: u80 :: u81 :: u82 :: u83 :: u84 :: u85 :: u86 :: u87 :: .int .i64 (j : Int) :: .pointer (some ⟨B, 2, none⟩) :: .slice (some ⟨gb, 0, none⟩) lb qb :: .int .i64 (lb : Int) :: .bool true :: u93 :: u94 :: .pointer (some ⟨B, 2, none⟩) :: .slice (some ⟨gb, 0, none⟩) lb qb :: .int .i64 (j : Int) :: .pointer (some ⟨gb, j * 13, none⟩) :: .agg #[.string E2.uid, .int .i64 E2.seq, .bool E2.canc, .int .i64 E2.days.first, .int .i64 E2.days.last, .int .i64 E2.days.every, .int .i64 E2.days.wd, .slice q1 E2.days.ex.length d1, .slice q2 E2.days.xt.length d2, .int .i64 E2.start, .int .i64 E2.mins, .string E2.summ, .string E2.loc] :: .pointer (some ⟨A, 2, none⟩) :: .slice (some ⟨ga, 0, none⟩) la qa :: .pointer (some ⟨XB, 0, none⟩) :: .string E2.uid :: .int .i64 (k2 : Int) :: t105 :: t106 :: t107 :: t108 :: t109 :: t110 :: t111 :: t112 :: t113 :: t114 :: t115 :: t116 :: t117 :: t118 :: t119 :: t120 :: t121 :: t122 :: u123 :: u124 :: u125 :: u126 :: u127 :: u128 :: u129 :: u130 :: u131 :: u132 :: u133 :: u134 :: u135 :: u136 :: u137 :: u138 :: u139 :: u140 :: u141 :: u142 :: u143 :: u144 :: u145 :: undef :: undef :: undef :: undef :: undef :: undef :: undef :: undef :: undef :: undef :: undef :: undef :: undef :: undef :: undef :: undef :: undef :: undef :: undef :: undef :: undef :: undef :: undef :: undef :: undef :: undef :: undef :: undef :: undef :: undef :: undef :: undef :: undef :: undef :: undef :: undef :: undef :: undef :: undef :: undef :: undef :: undef :: undef :: undef :: undef :: undef :: undef :: undef :: undef :: undef :: undef :: undef :: undef :: undef :: undef :: undef :: undef :: undef :: undef :: undef :: undef :: undef :: undef :: undef :: undef :: undef :: undef :: undef :: undef :: undef :: undef :: undef :: undef :: undef :: undef :: undef :: undef :: undef :: undef :: undef :: []).toArray, []⟩ ∧ t122 = .bool false ∧ Below wx.heap.size wx x) ?_ fun QQ hQ => ?_
                · intro a x hpost
                  obtain ⟨t105, hpost⟩ := hpost
                  obtain ⟨t106, hpost⟩ := hpost
                  obtain ⟨t107, hpost⟩ := hpost
                  obtain ⟨t108, hpost⟩ := hpost
                  obtain ⟨t109, hpost⟩ := hpost
                  obtain ⟨t110, hpost⟩ := hpost
                  obtain ⟨t111, hpost⟩ := hpost
                  obtain ⟨t112, hpost⟩ := hpost
                  obtain ⟨t113, hpost⟩ := hpost
                  obtain ⟨t114, hpost⟩ := hpost
                  obtain ⟨t115, hpost⟩ := hpost
                  obtain ⟨t116, hpost⟩ := hpost
                  obtain ⟨t117, hpost⟩ := hpost
                  obtain ⟨t118, hpost⟩ := hpost
                  obtain ⟨t119, hpost⟩ := hpost
                  obtain ⟨t120, hpost⟩ := hpost
                  obtain ⟨t121, hpost⟩ := hpost
                  obtain ⟨t122, hpost⟩ := hpost
                  obtain ⟨ha_, hpost⟩ := hpost
                  subst ha_
                  clear H0 H1 H2 H3 H4 H5 H6 H7 H8 H9 H10 H11 H12 H13
                  obtain ⟨rfl, hb⟩ := hpost
                  have HQ1 := Lib.hid hb
                  clear hb
                  go_wp2_with fail
                  go_meet
                  exact ⟨rfl, HQ1⟩
                have hQQ := Lib.hid hQ
                clear hQ
                simp only [List.drop_succ_cons, List.drop_zero]
                go_wp2_with (go_at_call 41; (with_reducible refine (H41.out x (HXX.out.trans (HS.out.below.mono HXX.out.size))).mono ?_); rintro e w5a ⟨rfl, hb5⟩; have HB5 := Lib.hid (HS.out.below.trans (hb5.mono HS.out.below.size)); clear hb5)
                exact hQQ.out _ _ ⟨_, _, _, _, _, _, _, _, _, _, _, _, _, _, _, _, _, _, rfl, rfl, HB5.out⟩
            case rest =>
            obtain ⟨hs0, hcut⟩ := hcut
            subst hs0
            obtain ⟨wq, hwd⟩ : ∃ z, z = wc := ⟨_, rfl⟩
            rw [← hwd] at hcut ⊢
            have HQ1 := Lib.hid hcut.out
            clear hwd hcut wc a2 x0
            go_upto_region 26 with (fail)
            go_cut [140] from 123 to 140 (fun s wy => s = .bool false ∧ Hid (Below wx.heap.size wx wy))
            case first =>
              have a2 : wq.cell? ⟨A, 2, none⟩ = some (.slice pa la qa) := (HA8.out.below (HXX.out.trans (HQ1.out.mono HXX.out.size)) HA8.out.lt).cell 2
              have x1 : wq.cell? ⟨XB, 1, none⟩ = some (.int .i64 E.seq) := (HXB.out.below HQ1.out HXB.out.lt).cell 1
              by_cases he : E.seq = (N : Int)
              rotate_left
              · have hb2 : (E.seq == (N : Int)) = false := by simpa using he
                clear he
                go_wp2_with fail
                go_meet
                exact ⟨rfl, HQ1⟩
              rw [he] at x1
              clear he
              have hb2 : ((N : Int) == (N : Int)) = true := by simp
              rcases find_cases E.uid (makK g t ls M) with ⟨hfn, -⟩ | ⟨k2, o, hf1, hf2, hf3⟩
              · have hfk1 : ¬ (0 : Int) ≤ fk := by rw [HFK.out, hfn]; decide
                clear hfn
                go_wp2_with fail
                go_meet
                exact ⟨rfl, HQ1⟩
              obtain ⟨q2, hq2, hqo⟩ : ∃ q2, ta[k2]? = some q2 ∧ q2.1 = o := by
                rw [← HMA.out, List.getElem?_map] at hf2
                cases hz2 : ta[k2]? with
                | none => rw [hz2] at hf2; cases hf2
                | some z => rw [hz2] at hf2; exact ⟨z, rfl, by simpa using hf2⟩
              obtain ⟨ga, hp, hga⟩ : ∃ gx, pa = some ⟨gx, 0, none⟩ ∧ gx < w8.heap.size := by
                have h := HRA8.out.row
                rcases h.2 with ⟨h1, h2⟩ | ⟨gx, cap, cur, hv, _, hgb, _⟩
                · have := HLa.out; have := (List.getElem?_eq_some_iff.1 hq2).1; omega
                · simp only [Value.slice.injEq] at hv; exact ⟨gx, hv.1, (Array.getElem?_eq_some_iff.1 hgb).1⟩
              subst hp
              have hfke : fk = (k2 : Int) := by rw [HFK.out]; exact hf1
              have hol := (makK_seq (g := g) (t := t) (ls := ls) (k := M) (by have := HLS.out; have := HMN.out; omega) (List.mem_of_getElem? hf2)).2
              have hk2a : (k2 : Int) < (la : Int) := by have := HLa.out; have := (List.getElem?_eq_some_iff.1 hq2).1; omega
              have hk20 : (0 : Int) ≤ (k2 : Int) := by omega
              have hk2n : ((k2 : Int)).toNat = k2 := by omega
              have o1 : wq.cell? ⟨ga, k2 * 13 + 1, none⟩ = some (.int .i64 o.seq) := by rw [← hqo]; exact ((HXX.out.trans (HQ1.out.mono HXX.out.size)).cell (p := ⟨ga, k2 * 13 + 1, none⟩) hga).trans (HRA8.out.ev k2 q2 hq2).c1
              have hge : ¬ (N : Int) ≤ o.seq := by have := HMN.out; omega
              subst hfke
              clear hf1 hf2 hf3 hq2 hqo hol
              go_wp2_with fail
              go_meet
              exact ⟨rfl, HQ1⟩
            case rest =>
            obtain ⟨hs0, hcut⟩ := hcut
            subst hs0
            obtain ⟨wd, hwd⟩ : ∃ z, z = wc := ⟨_, rfl⟩
            rw [← hwd] at hcut ⊢
            have HD := Lib.hid hcut.out
            clear hwd hcut wc
            have HXD := Lib.hid (HXX.out.trans (HD.out.mono HXX.out.size))
            have x2 : wd.cell? ⟨XB, 2, none⟩ = some (.bool E.canc) := (HXB.out.below HD.out HXB.out.lt).cell 2
            obtain ⟨cb, hcb⟩ : ∃ cb, cb = E.canc := ⟨_, rfl⟩
            rw [← hcb] at x2
            have HST := Lib.hid (show (((makK g t ls N).take (j + 1)).filter (fun e => !e.canc)).length = c + (if (!cb) = true then 1 else 0) from by rw [filt_take _ _ _ _ HGE.out, ← HC.out, hcb])
            clear hcb
            cases cb
            · have HCN := Lib.hid (show c + 1 = (((makK g t ls N).take (j + 1)).filter (fun e => !e.canc)).length from by have h := HST.out; simp at h; omega)
              go_wp2_with fail
              go_roundw
              case rel => exact ⟨j + 1, c + 1, by go_num, by go_num, by omega, HCN, HXD⟩
              case measure => simp [intOf]; omega
            · have HCN := Lib.hid (show c = (((makK g t ls N).take (j + 1)).filter (fun e => !e.canc)).length from by have h := HST.out; simp at h; omega)
              go_wp2_with fail
              go_roundw
              case rel => exact ⟨j + 1, c, by go_num, by go_num, by omega, HCN, HXD⟩
              case measure => simp [intOf]; omega
          have hjj : ¬ (j : Int) < (lb : Int) := by omega
          have hjE : (makK g t ls N).length = j := by have h := HLb.out; rw [← HMB.out, List.length_map]; omega
          have HCE := Lib.hid (show c = ((makK g t ls N).filter (fun e => !e.canc)).length from by have h := HC.out; rw [List.take_of_length_le (by omega)] at h; exact h)
          clear hjE
          obtain ⟨l, hl⟩ : ∃ l, ls[M]? = some l := ⟨_, List.getElem?_eq_getElem (by have := HLS.out; have := HMN.out; omega)⟩
          have HCL := Lib.hid (show c = (l.filter (fun s => !decide (Tt.daysK t s.tim 20 = []))).length from by rw [HCE.out, HMN.out]; exact seq_count HVO.out hl)
          obtain ⟨bl, ol, pl, cl, hpu, hbl, hlc, hl1, hl2, hl3, hls⟩ := HLA.out.at_ hl
          subst hpu
          have HSA := Lib.hid hls
          have HLC := Lib.hid hlc
          have HLL := Lib.hid hl
          obtain ⟨ln, hln⟩ : ∃ ln, ln = l.length := ⟨_, rfl⟩
          rw [← hln] at HLC hl1 hl3
          have HLN := Lib.hid hln
          clear hls hlc hl hln hlt
          obtain ⟨w9, hw9⟩ : ∃ q, q = wr := ⟨_, rfl⟩
          rw [← hw9] at HX a2 b2 ⊢
          clear hw9 wr
          have HW9 := Lib.hid (HW8.out.trans (HX.out.mono HW8.out.size))
          go_wp2_with fail
          clear a2 b2 hjj
          go_loopw [17, 18] (fun dv iv wr => ∃ i2 d : Nat, dv = .int .i64 d ∧ iv = .int .i64 i2 ∧ i2 ≤ ln ∧ Hid (d = ((l.take i2).filter (fun s => !decide (Tt.daysK t s.tim 20 = []))).length) ∧ Hid (Below w9.heap.size w9 wr)) (fun _ iv _ => ln - (intOf iv).toNat)
          case atStart => exact ⟨0, 0, rfl, rfl, Nat.zero_le _, Lib.hid rfl, Lib.hid (Below.refl _ _)⟩
          case round =>
            obtain ⟨i2, d, rfl, rfl, hi2, HDC, HY⟩ := hrel
            have HY5 := Lib.hid (HW9.out.trans (HY.out.mono HW9.out.size))
            have lc : wr.cell? ⟨bl, ol + M, none⟩ = some (.slice pl ln cl) := (HY5.out.cell (p := ⟨bl, ol + M, none⟩) hbl).trans HLC.out
            have hdi : d ≤ i2 := by rw [HDC.out]; exact filt_le _ _ _
            by_cases hlt : i2 < ln
            · skip
              have hii2 : (i2 : Int) < (ln : Int) := by omega
              have hi20 : (0 : Int) ≤ (i2 : Int) := by omega
              have hi2n : ((i2 : Int)).toNat = i2 := by omega
              obtain ⟨s, hs⟩ : ∃ s, l[i2]? = some s := ⟨_, List.getElem?_eq_getElem (by have := HLN.out; omega)⟩
              obtain ⟨bs, os, hps, hbs, hcs⟩ : ∃ bs os, pl = some ⟨bs, os, none⟩ ∧ bs < w5.heap.size ∧ ∀ (j i : Nat) (s : Ses) (u : Value), l[j]? = some s → (sesCells s).toList[i]? = some u → w5.cell? ⟨bs, os + j * 6 + i, none⟩ = some u := by
                rcases HSA.out with h | ⟨b0, o0, h1, h2, h3⟩
                · rw [h] at hs; cases hs
                · exact ⟨b0, o0, h1, h2, h3⟩
              subst hps
              have s0 : wr.cell? ⟨bs, os + i2 * 6, none⟩ = some (.string s.cls) := (HY5.out.cell (p := ⟨bs, os + i2 * 6, none⟩) hbs).trans (hcs i2 0 s _ hs rfl)
              have s1 : wr.cell? ⟨bs, os + i2 * 6 + 1, none⟩ = some (.int .i64 s.tim.weeks) := (HY5.out.cell (p := ⟨bs, os + i2 * 6 + 1, none⟩) hbs).trans (hcs i2 1 s _ hs rfl)
              have s2 : wr.cell? ⟨bs, os + i2 * 6 + 2, none⟩ = some (.int .i64 s.tim.day) := (HY5.out.cell (p := ⟨bs, os + i2 * 6 + 2, none⟩) hbs).trans (hcs i2 2 s _ hs rfl)
              have s3 : wr.cell? ⟨bs, os + i2 * 6 + 3, none⟩ = some (.int .i64 s.tim.start) := (HY5.out.cell (p := ⟨bs, os + i2 * 6 + 3, none⟩) hbs).trans (hcs i2 3 s _ hs rfl)
              have s4 : wr.cell? ⟨bs, os + i2 * 6 + 4, none⟩ = some (.int .i64 s.tim.len) := (HY5.out.cell (p := ⟨bs, os + i2 * 6 + 4, none⟩) hbs).trans (hcs i2 4 s _ hs rfl)
              have s5 : wr.cell? ⟨bs, os + i2 * 6 + 5, none⟩ = some (.string s.room) := (HY5.out.cell (p := ⟨bs, os + i2 * 6 + 5, none⟩) hbs).trans (hcs i2 5 s _ hs rfl)
              have HSX := Lib.hid hs
              have hsm := List.mem_of_getElem? hs
              have HSM := Lib.hid hsm
              have htim := (HVO.out.each l (List.mem_of_getElem? HLL.out)).2.each s hsm
              have hwk0 : 0 ≤ s.tim.weeks := by have := htim.tim.w0; omega
              have hwk1 : s.tim.weeks < 4611686018427387904 := by
                have h1 := htim.tim.w1
                have h2 : 2 ^ t.weeks.toNat ≤ 2 ^ (8 : Int).toNat := Nat.pow_le_pow_right (by omega) (by show t.weeks.toNat ≤ 8; omega)
                have h3 : (2 : Nat) ^ (8 : Int).toNat = 256 := rfl
                omega
              clear hs hcs hsm htim
              go_upto_region 35 with (fail)
              clear s0 s1 s2 s3 s4 s5
              obtain ⟨S, hS⟩ : ∃ z, z = wr.heap.size := ⟨_, rfl⟩
              obtain ⟨wx, hwx⟩ : ∃ z, z = wr.alloc (.cells #[.string s.cls, .int .i64 s.tim.weeks, .int .i64 s.tim.day, .int .i64 s.tim.start, .int .i64 s.tim.len, .string s.room] 110) := ⟨_, rfl⟩
              have HSB := Lib.hid (show Blk S #[.string s.cls, .int .i64 s.tim.weeks, .int .i64 s.tim.day, .int .i64 s.tim.start, .int .i64 s.tim.len, .string s.room] 110 wx from by rw [hwx, hS]; exact Blk.new wr _ _)
              have HYX := Lib.hid (HY.out.trans ((show Below wr.heap.size wr wx from by rw [hwx]; exact below_box wr _).mono HY.out.size))
              rw [← hwx, ← hS]
              clear hwx hS lc
              have HX5 := Lib.hid (HW9.out.trans (HYX.out.mono HW9.out.size))
              have HTX := Lib.hid (HT5.out.below HX5.out HT5.out.lt)
              have y0 : wx.cell? ⟨T, 0, none⟩ = some (.int .i64 t.first) := HTX.out.cell 0
              have y1 : wx.cell? ⟨T, 1, none⟩ = some (.int .i64 t.weeks) := HTX.out.cell 1
              have y2 : wx.cell? ⟨T, 2, none⟩ = some (.slice pt t.hols.length ct) := HTX.out.cell 2
              have s0 : wx.cell? ⟨S, 0, none⟩ = some (.string s.cls) := HSB.out.cell 0
              have s1 : wx.cell? ⟨S, 1, none⟩ = some (.int .i64 s.tim.weeks) := HSB.out.cell 1
              have s2 : wx.cell? ⟨S, 2, none⟩ = some (.int .i64 s.tim.day) := HSB.out.cell 2
              have s3 : wx.cell? ⟨S, 3, none⟩ = some (.int .i64 s.tim.start) := HSB.out.cell 3
              have s4 : wx.cell? ⟨S, 4, none⟩ = some (.int .i64 s.tim.len) := HSB.out.cell 4
              have s5 : wx.cell? ⟨S, 5, none⟩ = some (.string s.room) := HSB.out.cell 5
              have H42 := Lib.hid (show Calls Tryz.prog 42 #[.agg #[.int .i64 t.first, .int .i64 t.weeks, .slice pt t.hols.length ct], .agg #[.int .i64 s.tim.weeks, .int .i64 s.tim.day, .int .i64 s.tim.start, .int .i64 s.tim.len]] wx fun e w' => ∃ (pv : Option Addr) (cv : Nat), e = .returned (.slice pv (Tt.daysK t s.tim 20).length cv) ∧ Below wx.heap.size wx w' from by
                have h := days73 t s.tim pt ct wx.heap.size wx (Nat.le_refl _) (RowI.ao (lo := w2.heap.size) (ownsRow_below HV5.out HX5.out)) (by omega) hwk0 hwk1
                unfold trmVal timVal at h
                refine h.mono ?_
                rintro e w' ⟨v, rfl, hv, hb⟩
                obtain ⟨pv, cv, hpv⟩ := RowI.slice hv
                subst hpv
                exact ⟨pv, cv, rfl, hb⟩)
              obtain ⟨dl, hdl⟩ : ∃ dl, dl = (Tt.daysK t s.tim 20).length := ⟨_, rfl⟩
              rw [← hdl] at H42
              have HDL := Lib.hid hdl
              clear hdl
              have HDN := Lib.hid (show ((l.take (i2 + 1)).filter (fun s => !decide (Tt.daysK t s.tim 20 = []))).length = d + (if (!decide (Tt.daysK t s.tim 20 = [])) = true then 1 else 0) from by rw [filt_take _ _ _ _ HSX.out, ← HDC.out])
              by_cases hd0 : Tt.daysK t s.tim 20 = []
              · have hdl0 : ¬ (0 : Int) < (dl : Int) := by have h := HDL.out; rw [hd0] at h; simp at h; omega
                have HDN2 := Lib.hid (show d = ((l.take (i2 + 1)).filter (fun s => !decide (Tt.daysK t s.tim 20 = []))).length from by rw [HDN.out, hd0]; simp)
                clear hd0
                go_wp2_with (go_at_call 42; (with_reducible refine H42.out.mono ?_); rintro e wz ⟨pv, cv, rfl, hbz⟩; have HZ := Lib.hid hbz; clear hbz)
                have HZN := Lib.hid (HYX.out.trans (HZ.out.mono HYX.out.size))
                go_roundw
                case rel => exact ⟨i2 + 1, d, by go_num, by go_num, by omega, HDN2, HZN⟩
                case measure => simp [intOf]; omega
              have hdl0 : (0 : Int) < (dl : Int) := by
                have h := HDL.out
                have : 0 < (Tt.daysK t s.tim 20).length := List.length_pos_iff.2 hd0
                omega
              have HDN2 := Lib.hid (show d + 1 = ((l.take (i2 + 1)).filter (fun s => !decide (Tt.daysK t s.tim 20 = []))).length from by rw [HDN.out]; simp [hd0])
              obtain ⟨heb, k2, o, hf1, hf2, hoc, host, holo⟩ := seq_event HVO.out HLL.out HSM.out hd0
              clear hd0
              go_upto_region 37 with (go_at_call 42; (with_reducible refine H42.out.mono ?_); rintro e wz ⟨pv, cv, rfl, hbz⟩; have HZ := Lib.hid hbz; clear hbz)
              clear y0 y1 y2 s0 s1 s2 s3 s4 s5
              have HZY := Lib.hid (HYX.out.trans (HZ.out.mono HYX.out.size))
              have HZ5 := Lib.hid (HW9.out.trans (HZY.out.mono HW9.out.size))
              have HSZ := Lib.hid (HSB.out.below HZ.out HSB.out.lt)
              have HTZ2 := Lib.hid (HT5.out.below HZ5.out HT5.out.lt)
              have HGZ := Lib.hid (HG5.out.below HZ5.out HG5.out.lt)
              have x0 : wz.cell? ⟨G, 0, none⟩ = some (.int .i64 g.days) := HGZ.out.cell 0
              have x1 : wz.cell? ⟨G, 1, none⟩ = some (.int .i64 g.slots) := HGZ.out.cell 1
              have x2 : wz.cell? ⟨G, 2, none⟩ = some (.int .i64 g.begin_) := HGZ.out.cell 2
              have x3 : wz.cell? ⟨G, 3, none⟩ = some (.int .i64 g.mins) := HGZ.out.cell 3
              have y0 : wz.cell? ⟨T, 0, none⟩ = some (.int .i64 t.first) := HTZ2.out.cell 0
              have y1 : wz.cell? ⟨T, 1, none⟩ = some (.int .i64 t.weeks) := HTZ2.out.cell 1
              have y2 : wz.cell? ⟨T, 2, none⟩ = some (.slice pt t.hols.length ct) := HTZ2.out.cell 2
              have s0 : wz.cell? ⟨S, 0, none⟩ = some (.string s.cls) := HSZ.out.cell 0
              have s1 : wz.cell? ⟨S, 1, none⟩ = some (.int .i64 s.tim.weeks) := HSZ.out.cell 1
              have s2 : wz.cell? ⟨S, 2, none⟩ = some (.int .i64 s.tim.day) := HSZ.out.cell 2
              have s3 : wz.cell? ⟨S, 3, none⟩ = some (.int .i64 s.tim.start) := HSZ.out.cell 3
              have s4 : wz.cell? ⟨S, 4, none⟩ = some (.int .i64 s.tim.len) := HSZ.out.cell 4
              have s5 : wz.cell? ⟨S, 5, none⟩ = some (.string s.room) := HSZ.out.cell 5
              obtain ⟨E, hE⟩ : ∃ E, E = evOf g t s 1 := ⟨_, rfl⟩
              rw [← hE] at hf1 host holo
              have H43 := Lib.hid (show Calls Tryz.prog 43 #[.agg #[.int .i64 g.days, .int .i64 g.slots, .int .i64 g.begin_, .int .i64 g.mins], .agg #[.int .i64 t.first, .int .i64 t.weeks, .slice pt t.hols.length ct], .agg #[.string s.cls, .int .i64 s.tim.weeks, .int .i64 s.tim.day, .int .i64 s.tim.start, .int .i64 s.tim.len, .string s.room], .int .i64 1] wz fun e w' => ∃ (p p' : Option Addr) (c c' : Nat), e = .returned (.tuple #[.agg #[.string E.uid, .int .i64 E.seq, .bool E.canc, .int .i64 E.days.first, .int .i64 E.days.last, .int .i64 E.days.every, .int .i64 E.days.wd, .slice p E.days.ex.length c, .slice p' E.days.xt.length c', .int .i64 E.start, .int .i64 E.mins, .string E.summ, .string E.loc], .bool true]) ∧ Below wz.heap.size wz w' from by
                have hlw := HL5.out.trans (HZ5.out.mono HL5.out.size)
                have h := ev69 g t s 1 pt ct wz.heap.size wz (Nat.le_refl _) (RowI.ao (lo := w2.heap.size) (ownsRow_below HV5.out HZ5.out)) (by omega) (HPow.out _ hlw) (Nat.lt_of_lt_of_le HSix.out hlw.size)
                rw [heb, ← hE] at h
                unfold grdVal trmVal sesVal sesCells at h
                refine h.mono ?_
                rintro e w' ⟨p, p', c, c', rfl, -, -, hb⟩
                exact ⟨p, p', c, c', rfl, hb⟩)
              have HEH := Lib.hid hE
              have HF1 := Lib.hid hf1
              have HOC := Lib.hid hoc
              have HOS := Lib.hid host
              have HOL := Lib.hid holo
              have HF2 := Lib.hid hf2
              clear hE heb hf1 hoc host holo hf2
              go_upto_region 38 with (go_at_call 43; (with_reducible refine H43.out.mono ?_); rintro e wu ⟨e1, e2, f1, f2, rfl, hbu⟩; have HU := Lib.hid hbu; clear hbu)
              clear x0 x1 x2 x3 y0 y1 y2 s0 s1 s2 s3 s4 s5
              obtain ⟨Y, hY⟩ : ∃ z, z = wu.heap.size := ⟨_, rfl⟩
              obtain ⟨wv, hwv⟩ : ∃ z, z = wu.alloc (.cells #[.string E.uid, .int .i64 E.seq, .bool E.canc, .int .i64 E.days.first, .int .i64 E.days.last, .int .i64 E.days.every, .int .i64 E.days.wd, .slice e1 E.days.ex.length f1, .slice e2 E.days.xt.length f2, .int .i64 E.start, .int .i64 E.mins, .string E.summ, .string E.loc] 104) := ⟨_, rfl⟩
              have HYB := Lib.hid (show Blk Y #[.string E.uid, .int .i64 E.seq, .bool E.canc, .int .i64 E.days.first, .int .i64 E.days.last, .int .i64 E.days.every, .int .i64 E.days.wd, .slice e1 E.days.ex.length f1, .slice e2 E.days.xt.length f2, .int .i64 E.start, .int .i64 E.mins, .string E.summ, .string E.loc] 104 wv from by rw [hwv, hY]; exact Blk.new wu _ _)
              have HVZ := Lib.hid (show Below wz.heap.size wz wv from by rw [hwv]; exact HU.out.trans ((below_box wu _).mono HU.out.size))
              rw [← hwv, ← hY]
              clear hwv hY
              have HV9 := Lib.hid (HZY.out.trans (HVZ.out.mono HZY.out.size))
              have HV8 := Lib.hid (HX.out.trans (HV9.out.mono HX.out.size))
              have b2 : wv.cell? ⟨B, 2, none⟩ = some (.slice pb lb qb) := (HB8.out.below HV8.out HB8.out.lt).cell 2
              have e0 : wv.cell? ⟨Y, 0, none⟩ = some (.string E.uid) := HYB.out.cell 0
              have HF40 := Lib.hid (H40B.out wv HV8.out E.uid)
              rw [show findFrom E.uid (makK g t ls N) 0 = (k2 : Int) from by rw [HMN.out]; exact HF1.out] at HF40
              go_upto_region 39 with (go_at_call 40; (with_reducible refine HF40.out.mono ?_); rintro e wf ⟨rfl, hwf⟩; rw [hwf]; clear hwf wf)
              obtain ⟨q2, hq2, hqo⟩ : ∃ q2, tb[k2]? = some q2 ∧ q2.1 = o := by
                have hf2 := HF2.out
                rw [← HMN.out, ← HMB.out, List.getElem?_map] at hf2
                cases hz2 : tb[k2]? with
                | none => rw [hz2] at hf2; cases hf2
                | some z => rw [hz2] at hf2; exact ⟨z, rfl, by simpa using hf2⟩
              obtain ⟨gb, hp, hgb⟩ : ∃ gx, pb = some ⟨gx, 0, none⟩ ∧ gx < w8.heap.size := by
                have h := HRB8.out.row
                rcases h.2 with ⟨h1, h2⟩ | ⟨gx, cap, cur, hv, _, hgb, _⟩
                · have := HLb.out; have := (List.getElem?_eq_some_iff.1 hq2).1; omega
                · simp only [Value.slice.injEq] at hv; exact ⟨gx, hv.1, (Array.getElem?_eq_some_iff.1 hgb).1⟩
              subst hp
              have hk2a : (k2 : Int) < (lb : Int) := by have := HLb.out; have := (List.getElem?_eq_some_iff.1 hq2).1; omega
              have hk20 : (0 : Int) ≤ (k2 : Int) := by omega
              have hk2z : ¬ (k2 : Int) < 0 := by omega
              have hk2n : ((k2 : Int)).toNat = k2 := by omega
              have hev := HRB8.out.ev k2 q2 hq2
              rw [hqo] at hev
              have o2 : wv.cell? ⟨gb, k2 * 13 + 2, none⟩ = some (.bool false) := (HV8.out.cell (p := ⟨gb, k2 * 13 + 2, none⟩) hgb).trans (by rw [hev.c2, HOC.out])
              have o9 : wv.cell? ⟨gb, k2 * 13 + 9, none⟩ = some (.int .i64 E.start) := (HV8.out.cell (p := ⟨gb, k2 * 13 + 9, none⟩) hgb).trans (by rw [hev.c9, HOS.out])
              have o12 : wv.cell? ⟨gb, k2 * 13 + 12, none⟩ = some (.string E.loc) := (HV8.out.cell (p := ⟨gb, k2 * 13 + 12, none⟩) hgb).trans (by rw [hev.c12, HOL.out])
              have e9 : wv.cell? ⟨Y, 9, none⟩ = some (.int .i64 E.start) := HYB.out.cell 9
              have e12 : wv.cell? ⟨Y, 12, none⟩ = some (.string E.loc) := HYB.out.cell 12
              have hne1 : (E.start != E.start) = false := by simp
              clear hev hq2 hqo HF40
              go_quiet (fail)
              have HVN := Lib.hid (show Below w9.heap.size w9 (wv.drewN nq) from HV9.out.trans ⟨rfl, rfl, rfl, Nat.le_refl _, fun k hk => rfl⟩)
              obtain ⟨wq, hq⟩ : ∃ z, z = wv.drewN nq := ⟨_, rfl⟩
              rw [← hq] at HVN ⊢
              clear hq nq b2 e0 o2 o9 o12 e9 e12
              go_wp2_with fail
              go_roundw
              case rel => exact ⟨i2 + 1, d + 1, by go_num, by go_num, by omega, HDN2, HVN⟩
              case measure => simp [intOf]; omega
            have hii2 : ¬ (i2 : Int) < (ln : Int) := by omega
            have hcd : c = d := by have h1 := HCL.out; have h2 := HDC.out; rw [List.take_of_length_le (by have := HLN.out; omega)] at h2; omega
            have hcd2 : ((c : Int) == (d : Int)) = true := by simp [hcd]
            have HLW := Lib.hid (HL5.out.trans (HY5.out.mono HL5.out.size))
            clear hcd
            go_wp2_with (go_at_call 35; (with_reducible refine (HAW.out _ HLW.out).mono ?_); rintro e we ⟨rfl, hb⟩; have HE := Lib.hid (HLW.out.trans (hb.mono HLW.out.size)); clear hb)
            go_ret
            exact ⟨rfl, HE.out⟩
    have hQQ := Lib.hid hQ
    clear hQ
    simp only [List.drop_succ_cons, List.drop_zero]
    go_wp2_with fail
    exact hQQ.out _ _ ⟨_, _, _, _, _, _, _, _, _, _, _, _, rfl, _, _, _, _, rfl, rfl, c11_1, c11_2, c11_3, HS.out.below⟩
end Go.Proofs.YtcomifbfldoeiaaGreatDoor
