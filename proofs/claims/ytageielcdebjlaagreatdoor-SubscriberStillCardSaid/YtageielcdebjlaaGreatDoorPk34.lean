/- Plain facts: a drawn feed is valid; what merging makes of a valid feed in a reader without events, and of a feed that is not newer. No function of the program in sight. Condition: none. SubscriberStill: the walk of the law. -/
import Derived.Test.YtageielcdebjlaaGreatDoorPk22
import Derived.Test.YtageielcdebjlaaGreatDoorGenF
import Derived.Test.YtageielcdebjlaaGreatDoorAwk
import Derived.Test.YtageielcdebjlaaGreatDoorPk28
namespace Go.Proofs.YtageielcdebjlaaGreatDoor
open Go.RowKit

theorem digit_one (d : UInt8) (h : 49 ≤ d.toNat) (h2 : d.toNat ≤ 57) : Tt.numFrom [d] 1 = true := by
  unfold Tt.numFrom
  rw [decide_eq_true_iff]
  refine ⟨d.toNat - 48, by omega, by omega, ?_⟩
  rw [Lib.decDigits_one (by omega), show 48 + (d.toNat - 48) = d.toNat by omega, UInt8.ofNat_toNat]
theorem code_two (c : UInt8) (h : 49 ≤ c.toNat) (h2 : c.toNat ≤ 57) : Tt.code [99, c] = true := by
  have hc : c = UInt8.ofNat (49 + (c.toNat - 49)) := by rw [show 49 + (c.toNat - 49) = c.toNat by omega, UInt8.ofNat_toNat]
  rw [hc]
  exact (show ∀ n : Nat, n < 9 → Tt.code [99, UInt8.ofNat (49 + n)] = true by decide) _ (by omega)
theorem UidK.right {k : Int} {u : ByteArray} (h : UidK k u) (h0 : 0 ≤ k) (h1 : k < 9) : rightB u.data.toList = true := by
  obtain ⟨c, d, hu, hc, hd, hd2⟩ := h
  unfold rightB
  rw [hu, show ([99, c, 64, d] : List UInt8) = [99, c] ++ 64 :: [d] from rfl, Tt.rightP_last Tt.code code_no_at, code_two c (by omega) (by omega), digit_one d hd hd2]
  rfl
theorem UidK.late {k : Int} {p u : ByteArray} (h : UidK k p) (h' : UidK (k + 1) u) : lateU (some p) u = false := by
  obtain ⟨c, d, hp, hc, -, -⟩ := h
  obtain ⟨c', d', hu, hc', -, -⟩ := h'
  show (Op.bytesLess u.toList p.toList || u.toList == p.toList) = false
  rw [Bool.or_eq_false_iff]
  have hlt : c < c' := by rw [UInt8.lt_iff_toNat_lt]; omega
  constructor
  · rw [← Bool.not_eq_true]
    intro hl
    have hl := (lessU_iff u p).1 hl
    rw [Lib.toList_data, Lib.toList_data, hu, hp, List.cons_lt_cons_iff] at hl
    rcases hl with hl | ⟨-, hl⟩
    · exact absurd hl (UInt8.lt_irrefl _)
    · rw [List.cons_lt_cons_iff] at hl
      rcases hl with hl | ⟨hl, -⟩
      · rw [UInt8.lt_iff_toNat_lt] at hl; omega
      · subst hl; omega
  · rw [Lib.toList_data, Lib.toList_data, hu, hp, beq_eq_false_iff_ne]
    intro he
    injection he with _ he
    injection he with he _
    subst he; omega
theorem evs_zero (v : Int) : ∀ (es : List Ev) (k : Int) (p : Option ByteArray), 0 ≤ k → k + es.length ≤ 9 → (∀ (i : Nat) (e : Ev), es[i]? = some e → UidK (k + i) e.uid ∧ checkV e v = 0) → (∀ q, p = some q → UidK (k - 1) q) → evsV v p es = 0
  | [], _, _, _, _, _, _ => by unfold evsV; rfl
  | e :: r, k, p, hk, hl, h, hp => by
    obtain ⟨h1, h2⟩ := h 0 e rfl
    have h1 : UidK k e.uid := by simpa using h1
    refine (evsV_cons v p e r).2 ⟨h1.right hk (by simp at hl; omega), ?_, h2, evs_zero v r (k + 1) (some e.uid) (by omega) (by simp at hl; omega) (fun i x hx => ?_) (fun q hq => by cases hq; rw [show k + 1 - 1 = k by omega]; exact h1)⟩
    · cases p with
      | none => rfl
      | some q => exact (hp q rfl).late (by rw [show k - 1 + 1 = k by omega]; exact h1)
    · have := h (i + 1) x hx
      rw [show k + 1 + (i : Int) = k + ((i + 1 : Nat) : Int) by omega]
      exact this
/-- A drawn feed is valid. -/
theorem feed_zero {n : ByteArray} {v : Int} {ts : List (Ev × Value × Value)} (hn : Tt.code n.data.toList = true) (h0 : 1 ≤ v) (h1 : v ≤ 6) (hl : ts.length ≤ 4) (h : ∀ (i : Nat) (t : Ev × Value × Value), ts[i]? = some t → UidK i t.1.uid ∧ checkV t.1 v = 0) : feedV n v (ts.map (·.1)) = 0 := by
  unfold feedV
  rw [if_neg (by simp [hn]), if_neg (by omega), if_neg (by rw [List.length_map]; omega)]
  refine evs_zero v _ 0 none (by omega) (by rw [List.length_map]; omega) (fun i e he => ?_) (fun q hq => by cases hq)
  rw [List.getElem?_map] at he
  obtain ⟨t, ht, rfl⟩ := Option.map_eq_some_iff.1 he
  rw [Int.zero_add]
  exact h i t ht

theorem check_ser {e : Ev} {v : Int} (h : checkV e v = 0) : Tt.serV e.days = 0 := by
  unfold checkV at h
  split at h
  · cases h
  · split at h
    · contradiction
    · rename_i h2
      simpa using h2
theorem rd_lists {v : Int} {es : List Ev} (h : rdOk v es = true) : ∀ e ∈ es, e.days.ex.length ≤ 1000000 ∧ e.days.xt.length ≤ 1000000 := by
  intro e he
  have hh := ((Tt.serV_zero _).1 (check_ser (evsV_each v es none ((rdOk_iff v es).1 h).2.2.2 e he).2)).1.n
  omega
theorem first_merge {n : ByteArray} {v t : Int} {es : List Ev} (h : feedV n v es = 0) (h0 : 1 ≤ v) (hl : es.length ≤ 4) : mergeV 0 t [] n v es = (v, t, (mrg [] es).1, (mrg [] es).2, 0) := by
  have hr : rdOk 0 [] = true := (rdOk_iff 0 []).2 ⟨by omega, by omega, by simp, by unfold evsV; rfl⟩
  have hm := (mrg_len [] es es.length (Nat.le_refl _)).1
  rw [mrg_all] at hm
  simp only [List.length_nil] at hm
  unfold mergeV
  rw [if_neg (by simp [hr]), if_neg (by simp [h]), if_neg (by omega), if_neg (by omega)]
theorem still_merge {rv tag : Int} {es : List Ev} {n : ByteArray} {v : Int} {fs : List Ev} (hr : rdOk rv es = true) (hf : feedV n v fs = 0) (h : v ≤ rv) : mergeV rv tag es n v fs = (rv, tag, es, [], 0) := by
  unfold mergeV
  rw [if_neg (by simp [hr]), if_neg (by simp [hf]), if_pos h]
end Go.Proofs.YtageielcdebjlaaGreatDoor
namespace Go.Proofs.YtageielcdebjlaaGreatDoor
open Go.RowKit

set_option maxHeartbeats 16000000 in
set_option maxRecDepth 100000 in
theorem law4 (ao : Option Addr) (len cap : Nat) (w : World) (hn : Nums w ao len) :
    Calls Tryz.prog 4 #[.slice ao len cap] w fun e w' => e = .returned (.bool true) ∧ Below w.heap.size w w' := by
  have HN := Lib.hid hn
  clear hn
  by_cases hlen : (len : Int) ≤ 400
  · have hd1 : decide ((len : Int) ≤ 400) = true := decide_eq_true hlen
    go_enter Tryz.func4, Tryz.ntmps4
    go_wp2_with fail
    refine (light_any _ _ _ _).mono ?_
    rintro e w1 ⟨rfl, hw⟩
    rw [hw, hd1]
    clear hw w1 hd1
    go_wp2_with fail
    refine (roll_any ao len cap w (by omega) HN.out).mono ?_
    rintro e w1 ⟨rfl, hd, hb1, hs1⟩
    obtain ⟨b, hbd⟩ : ∃ b, b = w.heap.size := ⟨_, rfl⟩
    have HB1 := Lib.hid hb1
    rw [← hbd] at hd hs1 ⊢
    have HD1 := Lib.hid hd
    have hb0 : b ≤ w.heap.size := by omega
    have hb9 : w.heap.size ≤ b := by omega
    clear hd hb1 hbd
    go_wp2_with fail
    refine (feed20v b w1 HD1.out).mono ?_
    rintro e w2 ⟨n1, v1, p1, c1, us1, rfl, hn1, hv10, hv11, hl1, hE1, -, hco1, hz1, hd2, ho2⟩
    have HD2 := Lib.hid hd2
    have HE1 := Lib.hid hE1
    have HO2 := Lib.hid ho2
    have HV1 := Lib.hid (feed_zero hco1 hv10 hv11 hl1 hz1)
    clear hd2 hE1 ho2 hco1 hz1
    go_wp2_with fail
    refine (feed20v b w2 HD2.out).mono ?_
    rintro e w3 ⟨n2, v2, p2, c2, us2, rfl, hn2, hv20, hv21, hl2, hE2, -, hco2, hz2, hd3, ho3⟩
    have HD3 := Lib.hid hd3
    have HE2 := Lib.hid hE2
    have HO3 := Lib.hid ho3
    have HV2 := Lib.hid (feed_zero hco2 hv20 hv21 hl2 hz2)
    clear hd3 hE2 ho3 hco2 hz2
    go_upto_region 5 with (fail)
    obtain ⟨A, hA⟩ : ∃ A, A = w3.heap.size := ⟨_, rfl⟩
    obtain ⟨F, hF⟩ : ∃ F, F = w3.heap.size + 1 := ⟨_, rfl⟩
    obtain ⟨X, hX⟩ : ∃ X, X = (w3.alloc (.cells #[.string n1, .int .i64 v1, .slice p1 us1.length c1] 26)).alloc (.cells #[.string n2, .int .i64 v2, .slice p2 us2.length c2] 26) := ⟨_, rfl⟩
    have hs1b : b < w1.heap.size := HD1.out.lt
    have hs2 := HO2.out.size
    have hs3 := HO3.out.size
    have HA := Lib.hid (show Blk A #[.string n1, .int .i64 v1, .slice p1 us1.length c1] 26 X from by rw [hX, hA]; exact (Blk.new w3 _ _).alloc _)
    have HF := Lib.hid (show Blk F #[.string n2, .int .i64 v2, .slice p2 us2.length c2] 26 X from by rw [hX, hF]; exact Blk.new' _ _ _ (by simp))
    have HE1x := Lib.hid (show RowE w1.heap.size X (.slice p1 us1.length c1) us1 from by rw [hX]; exact ((HE1.out.but hs1b HO3.out).alloc _).alloc _)
    have HE2x := Lib.hid (show RowE w2.heap.size X (.slice p2 us2.length c2) us2 from by rw [hX]; exact (HE2.out.alloc _).alloc _)
    have HLX := Lib.hid (show Below w.heap.size w X from by rw [hX]; exact (((HB1.out.trans (HO2.out.below hb9 (by omega))).trans (HO3.out.below hb9 (by omega))).alloc (by omega) _).alloc (by simp; omega) _)
    rw [← hX, ← hF, ← hA]
    clear hX hA hF HE1 HE2 HD1 HD2 HD3 HO2 HO3 HB1 HN hs1b hs2 hs3
    have HM1 := Lib.hid (HE1x.out.rdm (by omega))
    have HM2 := Lib.hid (HE2x.out.rdm (by omega))
    have a0 : X.cell? ⟨A, 0, none⟩ = some (.string n1) := HA.out.cell 0
    have a1 : X.cell? ⟨A, 1, none⟩ = some (.int .i64 v1) := HA.out.cell 1
    have a2 : X.cell? ⟨A, 2, none⟩ = some (.slice p1 us1.length c1) := HA.out.cell 2
    have HC26 := Lib.hid (show Calls Tryz.prog 26 #[.agg #[.int .i64 0, .int .i64 5, .slice none 0 0], .agg #[.string n1, .int .i64 v1, .slice p1 us1.length c1]] X (Merged 0 5 [] n1 v1 (us1.map (·.1)) X) from merge26 0 5 none 0 [] n1 v1 p1 c1 us1 X (Seg.nil _ _ _) HM1.out.seg (by simp) (by omega) (fun t ht => by cases ht) HM1.out.ex)
    go_wp2_with fail
    refine HC26.out.mono ?_
    rintro e x2 ⟨v6, tag6, c6, pu, cu, us, pn, cn, ns, rfl, hmv, hRT, -, hb26⟩
    have HMV1 := Lib.hid hmv
    rw [first_merge HV1.out hv10 (by rw [List.length_map]; exact hl1)] at hmv
    simp only [Prod.mk.injEq] at hmv
    obtain ⟨e1, e2, -, -, e5⟩ := hmv
    subst e1 e2 e5
    have HOK := Lib.hid (show rdOk v6 (us.map (·.1)) = true from by have h := merged_ok (rv := 0) (tag := 5) (es := []) (n := n1) (v := v6) (fs := us1.map (·.1)) (by rw [← HMV1.out]); rw [← HMV1.out] at h; exact h)
    have HRT := Lib.hid hRT
    have HB26 := Lib.hid hb26
    clear hRT hb26 HC26 a0 a1 a2 HMV1
    go_upto_region 6 with (fail)
    obtain ⟨J, hJ⟩ : ∃ J, J = x2.heap.size := ⟨_, rfl⟩
    obtain ⟨U, hU⟩ : ∃ U, U = x2.alloc (.cells #[.int .i64 v6, .int .i64 5, .slice pu us.length cu] 24) := ⟨_, rfl⟩
    have HJ := Lib.hid (show Blk J #[.int .i64 v6, .int .i64 5, .slice pu us.length cu] 24 U from by rw [hU, hJ]; exact Blk.new x2 _ _)
    have Hx2 := Lib.hid (show Below x2.heap.size x2 U from by rw [hU]; exact below_box x2 _)
    have HXU := Lib.hid (show Below X.heap.size X U from HB26.out.trans (Hx2.out.mono HB26.out.size))
    have HRU := Lib.hid (HRT.out.made Hx2.out)
    have HMU := Lib.hid (HM2.out.below HXU.out)
    have HFU := Lib.hid (HF.out.below HXU.out HF.out.lt)
    have HLU := Lib.hid (show Below w.heap.size w U from HLX.out.trans (HXU.out.mono HLX.out.size))
    rw [← hU, ← hJ]
    clear hU hJ HRT HB26 Hx2 HXU HM1 HM2 HA HF HE1x HE2x HLX
    have a0 : U.cell? ⟨J, 0, none⟩ = some (.int .i64 v6) := HJ.out.cell 0
    have a1 : U.cell? ⟨J, 1, none⟩ = some (.int .i64 5) := HJ.out.cell 1
    have a2 : U.cell? ⟨J, 2, none⟩ = some (.slice pu us.length cu) := HJ.out.cell 2
    have f0 : U.cell? ⟨F, 0, none⟩ = some (.string n2) := HFU.out.cell 0
    have f1 : U.cell? ⟨F, 1, none⟩ = some (.int .i64 v2) := HFU.out.cell 1
    have f2 : U.cell? ⟨F, 2, none⟩ = some (.slice p2 us2.length c2) := HFU.out.cell 2
    have HUS := Lib.hid (show us.length ≤ 256 from by have h := ((rdOk_iff _ _).1 HOK.out).2.2.1; rw [List.length_map] at h; omega)
    by_cases hgt : v2 ≤ v6
    · have HSG : Hid (∃ qa qc, Value.slice pu us.length cu = .slice qa us.length qc ∧ Seg U.heap.size U qa us) := Lib.hid (by obtain ⟨qa, qc, hq, -, hsg⟩ := HRU.out.seg; exact ⟨qa, qc, hq, hsg⟩)
      have HS : Hid (Seg U.heap.size U pu us) := Lib.hid (by obtain ⟨qa, qc, hq, hsg⟩ := HSG.out; simp only [Value.slice.injEq] at hq; rw [hq.1]; exact hsg)
      have HCB := Lib.hid (show Calls Tryz.prog 26 #[.agg #[.int .i64 v6, .int .i64 5, .slice pu us.length cu], .agg #[.string n2, .int .i64 v2, .slice p2 us2.length c2]] U (Merged v6 5 (us.map (·.1)) n2 v2 (us2.map (·.1)) U) from merge26 v6 5 pu cu us n2 v2 p2 c2 us2 U HS.out HMU.out.seg (by have := HUS.out; omega) (by omega) (fun t ht => rd_lists HOK.out t.1 (List.mem_map.2 ⟨t, ht, rfl⟩)) HMU.out.ex)
      go_wp2_with fail
      refine HCB.out.mono ?_
      rintro e x3 ⟨v7, tag7, c7, pu7, cu7, us7, pn7, cn7, ns7, rfl, hmv, hRT7, -, hb3⟩
      rw [still_merge HOK.out HV2.out hgt] at hmv
      simp only [Prod.mk.injEq] at hmv
      obtain ⟨e1, e2, e3, e4, e5⟩ := hmv
      subst e1 e2 e4 e5
      have HUS7 := Lib.hid e3
      have HRT7 := Lib.hid hRT7
      have HB3 := Lib.hid hb3
      clear hRT7 hb3 HCB a0 a1 a2 f0 f1 f2 e3 HSG
      go_upto_region 11 with (fail)
      obtain ⟨K1, hK⟩ : ∃ K1, K1 = x3.heap.size := ⟨_, rfl⟩
      obtain ⟨U3, hU3⟩ : ∃ U3, U3 = x3.alloc (.cells #[.int .i64 v7, .int .i64 5, .slice pu7 us7.length cu7] 24) := ⟨_, rfl⟩
      have HK := Lib.hid (show Blk K1 #[.int .i64 v7, .int .i64 5, .slice pu7 us7.length cu7] 24 U3 from by rw [hU3, hK]; exact Blk.new x3 _ _)
      have Hx3 := Lib.hid (show Below x3.heap.size x3 U3 from by rw [hU3]; exact below_box x3 _)
      have HUU := Lib.hid (show Below U.heap.size U U3 from HB3.out.trans (Hx3.out.mono HB3.out.size))
      have HJ3 := Lib.hid (HJ.out.below HUU.out HJ.out.lt)
      have HS3 := Lib.hid ((HS.out.below HUU.out).mono HUU.out.size)
      have HS7 : Hid (Seg U3.heap.size U3 pu7 us7) := Lib.hid (by obtain ⟨qa, qc, hq, -, hsg⟩ := (HRT7.out.made Hx3.out).seg; simp only [Value.slice.injEq] at hq; rw [hq.1]; exact hsg)
      have HL3 := Lib.hid (show Below w.heap.size w U3 from HLU.out.trans (HUU.out.mono HLU.out.size))
      rw [← hU3, ← hK]
      clear hU3 hK HRT7 HB3 Hx3 HUU HS HJ HRU HMU HFU HLU
      have a0 : U3.cell? ⟨J, 0, none⟩ = some (.int .i64 v7) := HJ3.out.cell 0
      have a1 : U3.cell? ⟨J, 1, none⟩ = some (.int .i64 5) := HJ3.out.cell 1
      have a2 : U3.cell? ⟨J, 2, none⟩ = some (.slice pu us.length cu) := HJ3.out.cell 2
      have b0 : U3.cell? ⟨K1, 0, none⟩ = some (.int .i64 v7) := HK.out.cell 0
      have b1 : U3.cell? ⟨K1, 1, none⟩ = some (.int .i64 5) := HK.out.cell 1
      have b2 : U3.cell? ⟨K1, 2, none⟩ = some (.slice pu7 us7.length cu7) := HK.out.cell 2
      have HC28 := Lib.hid (show Calls Tryz.prog 28 #[.agg #[.int .i64 v7, .int .i64 5, .slice pu us.length cu], .agg #[.int .i64 v7, .int .i64 5, .slice pu7 us7.length cu7]] U3 (fun e w' => e = .returned (.bool true) ∧ Below U3.heap.size U3 w') from by have h := samerd28 v7 5 v7 5 (us.map (·.1)) (us7.map (·.1)) pu pu7 cu cu7 U3.heap.size U3 (Nat.le_refl _) HS3.out.evs HS7.out.evs (by rw [List.length_map]; have := HUS.out; omega); rw [List.length_map, List.length_map, decide_eq_true (p := v7 = v7 ∧ (5 : Int) = 5 ∧ us.map (·.1) = us7.map (·.1)) ⟨rfl, rfl, HUS7.out.symm⟩] at h; exact h)
      go_wp2_with fail
      refine HC28.out.mono ?_
      rintro e x4 ⟨rfl, hb4⟩
      have HL4 := Lib.hid (show Below w.heap.size w x4 from HL3.out.trans (hb4.mono HL3.out.size))
      clear hb4 HC28 a0 a1 a2 b0 b1 b2
      go_wp2_with fail
      refine (awake17 x4).mono ?_
      rintro e x5 ⟨rfl, hb⟩
      have HW := Lib.hid (HL4.out.trans (hb.mono HL4.out.size))
      clear hb
      go_wp2_with fail
      go_ret
      exact ⟨rfl, HW.out⟩
    · go_wp2_with fail
      refine (awake17 U).mono ?_
      rintro e x5 ⟨rfl, hb⟩
      have HW := Lib.hid (HLU.out.trans (hb.mono HLU.out.size))
      clear hb
      go_wp2_with fail
      go_ret
      exact ⟨rfl, HW.out⟩
  · have hd1 : decide ((len : Int) ≤ 400) = false := decide_eq_false hlen
    go_enter Tryz.func4, Tryz.ntmps4
    go_wp2_with fail
    refine (light_any _ _ _ _).mono ?_
    rintro e w1 ⟨rfl, hw⟩
    rw [hw, hd1]
    clear hw w1 hd1
    go_wp2_with fail
    refine (awake17 w).mono ?_
    rintro e w1 ⟨rfl, hb⟩
    have HW := Lib.hid hb
    clear hb
    go_wp2_with fail
    go_ret
    exact ⟨rfl, HW.out⟩
end Go.Proofs.YtageielcdebjlaaGreatDoor
