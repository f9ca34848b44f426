/- FeedFormats: the walk of the law. -/
import Derived.Test.YtageielcdebjlaaGreatDoorPrs50
import Derived.Test.YtageielcdebjlaaGreatDoorFmtP
import Derived.Test.YtageielcdebjlaaGreatDoorPk32
import Derived.Test.YtageielcdebjlaaGreatDoorPk35
import Derived.Test.YtageielcdebjlaaGreatDoorGenW
import Derived.Test.YtageielcdebjlaaGreatDoorPk25
namespace Go.Proofs.YtageielcdebjlaaGreatDoor
open Go.RowKit

/-- Where Format finds no error the feed is valid and its text fits. -/
theorem format_ok {n z : ByteArray} {v : Int} {es : List Ev} (h : (formatV n v es z).2 = 0) : feedV n v es = 0 ∧ Tt.code z.data.toList = true ∧ (feedT n.data.toList v es z.data.toList).length ≤ 262144 ∧ (formatV n v es z).1 = feedT n.data.toList v es z.data.toList := by
  unfold formatV at h ⊢
  split at h
  · rename_i h1; exact absurd h h1
  · rename_i h1
    split at h
    · cases h
    · rename_i h2
      split at h
      · cases h
      · rename_i h3
        rw [if_neg h1, if_neg h2, if_neg h3]
        refine ⟨by simpa using h1, by simpa using h2, by omega, rfl⟩
/-- A feed's events in memory, for the law. -/
structure FdA (w : World) (ao : Option Addr) (n : Nat) (es : List Ev) : Prop where
  len : n = es.length
  evs : Evs w.heap.size w ao es
  few : n ≤ 1000000000000
theorem FdA.below {w w' : World} {ao : Option Addr} {n : Nat} {es : List Ev} (h : FdA w ao n es) (hb : Below w.heap.size w w') : FdA w' ao n es := ⟨h.len, (h.evs.below hb).mono hb.size, h.few⟩
theorem Evs.each {B : Nat} {w : World} {ao : Option Addr} {es : List Ev} (h : Evs B w ao es) : ∀ e ∈ es, EvB e := by
  intro e he; rcases h with rfl | ⟨b, o, _, _, hc⟩
  · cases he
  · obtain ⟨j, hj⟩ := List.mem_iff_getElem?.1 he
    exact (hc j e hj).1

set_option maxHeartbeats 16000000 in
set_option maxRecDepth 100000 in
theorem law8 (fn : ByteArray) (fv : Int) (af : Option Addr) (cf : Nat) (fs : List (Ev × Value × Value)) (zn : ByteArray) (ao : Option Addr) (len cap : Nat) (w : World) (mx : Int) (hF : Seg w.heap.size w af fs) (hfl : fs.length ≤ 1000000000000) (hn : Nums w ao len)
    (hm : w.cell? ⟨0, 0, none⟩ = some (.int .i64 mx)) (hL : Lens w) (hP : Pow w) (h6 : 6 < w.heap.size) :
    Calls Tryz.prog 8 #[.agg #[.string fn, .int .i64 fv, .slice af fs.length cf], .string zn, .slice ao len cap] w fun e w' => e = .returned (.bool true) ∧ Below w.heap.size w w' := by
  obtain ⟨m, hmm⟩ : ∃ m, m = fs.length := ⟨_, rfl⟩
  obtain ⟨es, hes⟩ : ∃ es, es = fs.map (·.1) := ⟨_, rfl⟩
  have HFA := Lib.hid (show FdA w af m es from ⟨by rw [hmm, hes, List.length_map], by rw [hes]; exact hF.evs, by omega⟩)
  obtain ⟨w0, hw0⟩ : ∃ w0, w0 = w.alloc (.cells #[.string fn, .int .i64 fv, .slice af m cf] 26) := ⟨_, rfl⟩
  have HB0 := Lib.hid (show Blk w.heap.size #[.string fn, .int .i64 fv, .slice af m cf] 26 w0 from by rw [hw0]; exact Blk.new w _ _)
  have HL0 := Lib.hid (show Below w.heap.size w w0 from by rw [hw0]; exact below_box w _)
  have HN := Lib.hid hn; have HM := Lib.hid hm; have HLW := Lib.hid hL; have HPW := Lib.hid hP; have HSix := Lib.hid h6; have HAW : Hid (∀ W, Below w.heap.size w W → Calls Tryz.prog 33 #[] W fun e w' => e = .returned (.bool true) ∧ Below W.heap.size W w') := Lib.hid (fun W hW => awake_any W mx ((hW.cell (p := ⟨0, 0, none⟩) (show 0 < w.heap.size by omega)).trans hm) (by have := hW.size; omega))
  have HLens : Hid (∀ W, Below w.heap.size w W → Lens W) := Lib.hid (fun W hW => hL.below (by omega) hW)
  have HPow : Hid (∀ W, Below w.heap.size w W → Pow W) := Lib.hid (fun W hW => hP.below h6 hW)
  have HMx : Hid (∀ W, Below w.heap.size w W → W.cell? ⟨0, 0, none⟩ = some (.int .i64 mx)) := Lib.hid (fun W hW => (hW.cell (p := ⟨0, 0, none⟩) (show 0 < w.heap.size by omega)).trans hm)
  have HS0 : Hid (Calls Tryz.prog 44 #[.agg #[.string fn, .int .i64 fv, .slice af m cf]] w0 (SomeBool w0)) := Lib.hid (by
    have h := HFA.out.below HL0.out
    have h2 := short44A fn fv es af cf w0 h.evs (by have := h.len; have := h.few; omega)
    rw [← h.len] at h2
    exact h2)
  rw [← hmm]; clear hF hn hm hL hP hmm hes hfl h6; have r0 : w0.cell? ⟨w.heap.size, 0, none⟩ = some (.string fn) := HB0.out.cell 0
  have r1 : w0.cell? ⟨w.heap.size, 1, none⟩ = some (.int .i64 fv) := HB0.out.cell 1
  have r2 : w0.cell? ⟨w.heap.size, 2, none⟩ = some (.slice af m cf) := HB0.out.cell 2
  by_cases hlen : (len : Int) ≤ 400
  · have hd1 : decide ((len : Int) ≤ 400) = true := decide_eq_true hlen
    go_enter Tryz.func8, Tryz.ntmps8
    go_upto_region 1 with (fail)
    rw [← hw0]; clear hw0; go_wp2_with fail
    refine (light_any _ _ _ _).mono ?_
    rintro e w1 ⟨rfl, hw⟩; rw [hw, hd1]
    clear hw w1 hd1; go_wp2_with fail
    refine HS0.out.mono ?_
    rintro e w1 ⟨b1, rfl, hb1⟩; have HB1 := Lib.hid (HB0.out.below hb1 HB0.out.lt)
    have HL1 := Lib.hid (HL0.out.trans (hb1.mono HL0.out.size))
    clear hb1 r0 r1 r2 HB0 HL0 HS0; cases b1
    · go_wp2_with fail
      refine (HAW.out _ HL1.out).mono ?_
      rintro e w2 ⟨rfl, hb⟩; go_wp2_with fail
      go_ret; exact ⟨rfl, HL1.out.trans (hb.mono HL1.out.size)⟩
    · by_cases hzs : (100 : Int) < (zn.size : Int)
      · go_wp2_with fail
        refine (HAW.out _ HL1.out).mono ?_
        rintro e w2 ⟨rfl, hb⟩; go_wp2_with fail
        go_ret; exact ⟨rfl, HL1.out.trans (hb.mono HL1.out.size)⟩
      · go_upto_region 3 with (fail)
        refine wp_region_all (by kernel_rfl) (fun listed a x => ∃ (l0 l1 l2 l3 l4 l5 l6 : Bool) (t31 t32 t33 t34 t35 t36 t37 : Value), listed = #[l0, l1, l2, l3, l4, l5, l6] ∧ a = ⟨(.agg #[.string fn, .int .i64 fv, .slice af m cf] :: .string zn :: .slice ao len cap :: .pointer (some ⟨w.heap.size, 0, none⟩) :: undef :: undef :: .bool false :: undef :: undef :: undef :: undef :: undef :: undef :: undef :: undef :: undef :: undef :: .slice ao len cap :: .bool true :: .bool false :: .bool false :: .agg #[.string fn, .int .i64 fv, .slice af m cf] :: .bool true :: .bool false :: .bool false :: .bool false :: .string zn :: .int .i64 zn.size :: .bool (decide ((100 : Int) < (zn.size : Int))) :: .bool (decide ((100 : Int) < (zn.size : Int))) :: undef :: t31 :: t32 :: t33 :: t34 :: t35 :: t36 :: t37 :: undef :: undef :: undef :: undef :: undef :: undef :: undef :: undef :: undef :: undef :: undef :: undef :: undef :: undef :: undef :: undef :: undef :: undef :: undef :: undef :: undef :: undef :: undef :: undef :: undef :: undef :: undef :: undef :: undef :: undef :: undef :: undef :: undef :: undef :: undef :: undef :: undef :: undef :: undef :: undef :: undef :: undef :: undef :: undef :: undef :: undef :: undef :: undef :: undef :: undef :: undef :: undef :: undef :: undef :: []).toArray, []⟩ ∧ Hid (l0 = true → t31 = .agg #[.string fn, .int .i64 fv, .slice af m cf]) ∧ Hid (l1 = true → t32 = .slice ao len cap) ∧ Hid (l2 = true → l3 = false → ∃ (b : Nat), t33 = .pointer (some ⟨b, 0, none⟩) ∧ w1.heap.size ≤ b ∧ Dice b x) ∧ Hid (l3 = true → l4 = false → ∃ (n2 : ByteArray) (v2 : Int) (p2 : Option Addr) (kc2 : Nat) (us2 : List (Ev × Value × Value)), t34 = .agg #[.string n2, .int .i64 v2, .slice p2 us2.length kc2] ∧ us2.length ≤ 20 ∧ RowE w1.heap.size x (.slice p2 us2.length kc2) us2) ∧ Hid (l4 = true → ∃ (n2 : ByteArray) (v2 : Int) (p2 : Option Addr) (kc2 : Nat) (us2 : List (Ev × Value × Value)) (g : Nat), t35 = .slice (some ⟨g, 0, none⟩) 2 2 ∧ us2.length ≤ 20 ∧ RowE w1.heap.size x (.slice p2 us2.length kc2) us2 ∧ w1.heap.size ≤ g ∧ Blk g #[.string fn, .int .i64 fv, .slice af m cf, .string n2, .int .i64 v2, .slice p2 us2.length kc2] 26 x ∧ l3 = true) ∧ Hid (l5 = true → t36 = .int .i64 2) ∧ Hid (l6 = true → t37 = .int .i64 0) ∧ Hid (Made w1 x)) (by kernel_rfl) ?_ ?_ ?_ ?_
        · exact ⟨false, false, false, false, false, false, false, _, _, _, _, _, _, _, rfl, rfl, Lib.hid (fun h => by cases h), Lib.hid (fun h => by cases h), Lib.hid (fun h => by cases h), Lib.hid (fun h => by cases h), Lib.hid (fun h => by cases h), Lib.hid (fun h => by cases h), Lib.hid (fun h => by cases h), Lib.hid (Made.start w1)⟩
        · intro listed a x hj; obtain ⟨l0, hj⟩ := hj
          obtain ⟨l1, hj⟩ := hj; obtain ⟨l2, hj⟩ := hj; obtain ⟨l3, hj⟩ := hj; obtain ⟨l4, hj⟩ := hj; obtain ⟨l5, hj⟩ := hj; obtain ⟨l6, hj⟩ := hj; obtain ⟨t31, hj⟩ := hj; obtain ⟨t32, hj⟩ := hj; obtain ⟨t33, hj⟩ := hj; obtain ⟨t34, hj⟩ := hj; obtain ⟨t35, hj⟩ := hj; obtain ⟨t36, hj⟩ := hj; obtain ⟨t37, hj⟩ := hj; obtain ⟨h1, -⟩ := hj; subst h1; exact rfl
        · intro listed a x i hj hlt hu haf; obtain ⟨l0, hj⟩ := hj
          obtain ⟨l1, hj⟩ := hj; obtain ⟨l2, hj⟩ := hj; obtain ⟨l3, hj⟩ := hj; obtain ⟨l4, hj⟩ := hj; obtain ⟨l5, hj⟩ := hj; obtain ⟨l6, hj⟩ := hj; obtain ⟨t31, hj⟩ := hj; obtain ⟨t32, hj⟩ := hj; obtain ⟨t33, hj⟩ := hj; obtain ⟨t34, hj⟩ := hj; obtain ⟨t35, hj⟩ := hj; obtain ⟨t36, hj⟩ := hj; obtain ⟨t37, hj⟩ := hj; obtain ⟨hl_, hj⟩ := hj; obtain ⟨ha_, hj⟩ := hj; obtain ⟨H0, hj⟩ := hj; obtain ⟨H1, hj⟩ := hj; obtain ⟨H2, hj⟩ := hj; obtain ⟨H3, hj⟩ := hj; obtain ⟨H4, hj⟩ := hj; obtain ⟨H5, hj⟩ := hj; obtain ⟨H6, hj⟩ := hj; have HS := hj; clear hj; subst hl_; subst ha_; rcases (show ∀ i : Nat, i < 7 → (i = 0 ∨ i = 1 ∨ i = 2 ∨ i = 3 ∨ i = 4 ∨ i = 5 ∨ i = 6) by decide) i hlt with rfl | rfl | rfl | rfl | rfl | rfl | rfl
          · have haf := haf _ rfl; clear haf
            have hu : l0 = false := hu
            have c0 : x.cell? ⟨w.heap.size, 0, none⟩ = some (.string fn) := (HS.out.blk HB1.out).cell 0
            have c1 : x.cell? ⟨w.heap.size, 1, none⟩ = some (.int .i64 fv) := (HS.out.blk HB1.out).cell 1
            have c2 : x.cell? ⟨w.heap.size, 2, none⟩ = some (.slice af m cf) := (HS.out.blk HB1.out).cell 2
            refine wpOp_of_list_any rfl fun QQ hQ => ?_
            have hQQ := Lib.hid hQ; clear hQ; simp only [List.getElem_toArray, List.getElem_cons_zero]
            go_wp2_with fail
            exact hQQ.out _ _ ⟨true, l1, l2, l3, l4, l5, l6, _, _, _, _, _, _, _, rfl, rfl, Lib.hid (fun _ => rfl), H1, H2, H3, H4, H5, H6, HS⟩
          · have haf := haf _ rfl; clear haf
            have hu : l1 = false := hu
            refine wpOp_of_list_any rfl fun QQ hQ => ?_
            have hQQ := Lib.hid hQ; clear hQ; simp only [List.getElem_toArray, List.getElem_cons_zero, List.getElem_cons_succ]
            go_wp2_with fail
            exact hQQ.out _ _ ⟨l0, true, l2, l3, l4, l5, l6, _, _, _, _, _, _, _, rfl, rfl, H0, Lib.hid (fun _ => rfl), H2, H3, H4, H5, H6, HS⟩
          · have haf := haf _ rfl; have q1 : l1 = true := haf ⟨1, Go.Ground.data⟩ (by simp) rfl
            clear haf; have hu : l2 = false := hu
            have e1 := (H1.out q1)
            subst e1; clear H1; refine wpOp_of_list_any rfl fun QQ hQ => ?_
            have hQQ := Lib.hid hQ; clear hQ; simp only [List.getElem_toArray, List.getElem_cons_zero, List.getElem_cons_succ]
            go_wp2_with fail
            refine (roll_any ao len cap x (by omega) (HN.out.below (HL1.out.trans (HS.out.below.mono HL1.out.size)))).mono ?_
            rintro e x1 ⟨rfl, hd, hb1, hs1⟩; have hk := Kept.made (B := w1.heap.size) hb1
            have HS1 := Lib.hid (HS.out.then hb1)
            have HD1 := Lib.hid hd; have hx1 := HS.out.below.size; clear hd hb1; go_wp2_with fail
            exact hQQ.out _ _ ⟨l0, l1, true, l3, l4, l5, l6, _, _, _, _, _, _, _, rfl, rfl, H0, Lib.hid (fun _ => rfl), Lib.hid (fun _ _ => ⟨_, rfl, hx1, HD1.out⟩), Lib.hid (fun h h2 => (by obtain ⟨n2, v2, p2, kc2, us2, e, c0, c1⟩ := H3.out h h2; exact ⟨n2, v2, p2, kc2, us2, e, c0, (RowE.kept c1 hk)⟩)), Lib.hid (fun h => (by obtain ⟨n2, v2, p2, kc2, us2, g, e, c0, c1, c2, c3, c4⟩ := H4.out h; exact ⟨n2, v2, p2, kc2, us2, g, e, c0, (RowE.kept c1 hk), c2, (hk _ _ _ c2 c3), c4⟩)), H5, H6, HS1⟩
          · have haf := haf _ rfl; have q2 : l2 = true := haf ⟨2, Go.Ground.data⟩ (by simp) rfl
            clear haf; have hu : l3 = false := hu
            obtain ⟨b2, e2, c2_0, c2_1⟩ := (H2.out q2 hu)
            subst e2; clear H2; refine wpOp_of_list_any rfl fun QQ hQ => ?_
            have hQQ := Lib.hid hQ; clear hQ; simp only [List.getElem_toArray, List.getElem_cons_zero, List.getElem_cons_succ]
            go_wp2_with fail
            refine (some45 b2 x c2_1).mono ?_
            rintro e x1 ⟨n2, v2, p2, kc2, us2, rfl, -, hl2, hE, hd, ho⟩; have HS1 := Lib.hid (show Made w1 x1 from ⟨HS.out.below.trans (ho.below c2_0 HS.out.below.size)⟩)
            have HE1 := Lib.hid (hE.mono HS.out.below.size)
            clear hE hd ho; go_wp2_with fail
            exact hQQ.out _ _ ⟨l0, l1, l2, true, l4, l5, l6, _, _, _, _, _, _, _, rfl, rfl, H0, H1, Lib.hid (fun _ h => by cases h), Lib.hid (fun _ _ => ⟨_, _, _, _, us2, rfl, hl2, HE1.out⟩), Lib.hid (fun h => absurd (hu.symm.trans (by obtain ⟨n2, v2, p2, kc2, us2, g, e, c0, c1, c2, c3, c4⟩ := H4.out h; exact c4)) (by decide)), H5, H6, HS1⟩
          · have haf := haf _ rfl; have q0 : l0 = true := haf ⟨0, Go.Ground.data⟩ (by simp) rfl
            have q3 : l3 = true := haf ⟨3, Go.Ground.data⟩ (by simp) rfl
            clear haf; have hu : l4 = false := hu
            have e0 := (H0.out q0)
            subst e0; clear H0; obtain ⟨n23, v23, p23, kc23, us23, e3, c3_0, c3_1⟩ := (H3.out q3 hu)
            subst e3; clear H3; have HE1 := Lib.hid c3_1; clear c3_1; refine wpOp_of_list_any rfl fun QQ hQ => ?_
            have hQQ := Lib.hid hQ; clear hQ; simp only [List.getElem_toArray, List.getElem_cons_zero, List.getElem_cons_succ]
            go_wp2_with fail
            exact hQQ.out _ _ ⟨l0, l1, l2, l3, true, l5, l6, _, _, _, _, _, _, _, rfl, rfl, Lib.hid (fun _ => rfl), H1, Lib.hid (fun _ h => absurd (q3.symm.trans h) (by decide)), Lib.hid (fun _ h => by cases h), Lib.hid (fun _ => ⟨_, _, _, _, us23, _, rfl, c3_0, HE1.out.alloc _, HS.out.below.size, Blk.new x _ _, q3⟩), H5, H6, Lib.hid (HS.out.alloc _)⟩
          · have haf := haf _ rfl; have q4 : l4 = true := haf ⟨4, Go.Ground.data⟩ (by simp) rfl
            clear haf; have hu : l5 = false := hu
            obtain ⟨n24, v24, p24, kc24, us24, g4, e4, c4_0, c4_1, c4_2, c4_3, c4_4⟩ := (H4.out q4)
            subst e4; clear H4; refine wpOp_of_list_any rfl fun QQ hQ => ?_
            have hQQ := Lib.hid hQ; clear hQ; simp only [List.getElem_toArray, List.getElem_cons_zero, List.getElem_cons_succ]
            go_wp2_with fail
            exact hQQ.out _ _ ⟨l0, l1, l2, l3, l4, true, l6, _, _, _, _, _, _, _, rfl, rfl, H0, H1, H2, H3, Lib.hid (fun _ => ⟨n24, v24, p24, kc24, us24, g4, rfl, c4_0, c4_1, c4_2, c4_3, c4_4⟩), Lib.hid (fun _ => rfl), H6, HS⟩
          · have haf := haf _ rfl; clear haf
            have hu : l6 = false := hu
            refine wpOp_of_list_any rfl fun QQ hQ => ?_
            have hQQ := Lib.hid hQ; clear hQ; simp only [List.getElem_toArray, List.getElem_cons_zero, List.getElem_cons_succ]
            go_wp2_with fail
            exact hQQ.out _ _ ⟨l0, l1, l2, l3, l4, l5, true, _, _, _, _, _, _, _, rfl, rfl, H0, H1, H2, H3, H4, H5, Lib.hid (fun _ => rfl), HS⟩
        · intro listed a x hj hall; obtain ⟨l0, hj⟩ := hj
          obtain ⟨l1, hj⟩ := hj; obtain ⟨l2, hj⟩ := hj; obtain ⟨l3, hj⟩ := hj; obtain ⟨l4, hj⟩ := hj; obtain ⟨l5, hj⟩ := hj; obtain ⟨l6, hj⟩ := hj; obtain ⟨t31, hj⟩ := hj; obtain ⟨t32, hj⟩ := hj; obtain ⟨t33, hj⟩ := hj; obtain ⟨t34, hj⟩ := hj; obtain ⟨t35, hj⟩ := hj; obtain ⟨t36, hj⟩ := hj; obtain ⟨t37, hj⟩ := hj; obtain ⟨hl_, hj⟩ := hj; obtain ⟨ha_, hj⟩ := hj; obtain ⟨H0, hj⟩ := hj; obtain ⟨H1, hj⟩ := hj; obtain ⟨H2, hj⟩ := hj; obtain ⟨H3, hj⟩ := hj; obtain ⟨H4, hj⟩ := hj; obtain ⟨H5, hj⟩ := hj; obtain ⟨H6, hj⟩ := hj; have HS := hj; clear hj; subst hl_; subst ha_; have q4 : l4 = true := hall 4 (show 4 < 7 by omega)
          have q5 : l5 = true := hall 5 (show 5 < 7 by omega)
          have q6 : l6 = true := hall 6 (show 6 < 7 by omega)
          clear hall; obtain ⟨n24, v24, p24, kc24, us24, g4, e4, c4_0, c4_1, c4_2, c4_3, c4_4⟩ := (H4.out q4)
          subst e4; have e5 := (H5.out q5)
          subst e5; have e6 := (H6.out q6)
          subst e6; have HG := Lib.hid c4_3; have HE := Lib.hid c4_1; have HSM := Lib.hid HS.out.below
          have hlt := HG.out.lt; have HLX := Lib.hid (HL1.out.trans (HS.out.below.mono HL1.out.size))
          have HF0 := Lib.hid (HFA.out.below HLX.out)
          have HF1 := Lib.hid (show FdA x p24 us24.length (us24.map (·.1)) from ⟨by rw [List.length_map], by obtain ⟨qa, qc, hq, h⟩ := HE.out.evs; rw [Value.slice.injEq] at hq; rw [hq.1]; exact h, by omega⟩)
          obtain ⟨ys4, hys⟩ : ∃ q, q = us24.map (·.1) := ⟨_, rfl⟩
          obtain ⟨l4, hl4⟩ : ∃ q, q = us24.length := ⟨_, rfl⟩
          rw [← hys, ← hl4] at HF1
          rw [← hl4] at HG
          clear c4_0 c4_1 c4_2 c4_3 H0 H1 H2 H3 HS HSM HE HB1 hys hl4 HL1; go_wp2_with fail
          go_loopw [37] (fun iv wr => ∃ i : Nat, iv = .int .i64 i ∧ i ≤ 2 ∧ Hid (Below x.heap.size x wr)) (fun iv _ => 2 - (intOf iv).toNat)
          case atStart => exact ⟨0, rfl, Nat.zero_le _, Lib.hid (Below.refl _ _)⟩
          case round =>
            obtain ⟨i, rfl, hi2, HB⟩ := hrel; have HLr := Lib.hid (HLX.out.trans (HB.out.mono HLX.out.size))
            by_cases hit : i < 2
            · have hiti : (i : Int) < 2 := by omega
              have HGr := Lib.hid (HG.out.below HB.out HG.out.lt)
              obtain ⟨yn, yv, ya, ym, yc, ys, k0, k1, k2, hFd⟩ : ∃ (yn : ByteArray) (yv : Int) (ya : Option Addr) (ym yc : Nat) (ys : List Ev), wr.cell? ⟨g4, i * 3, none⟩ = some (.string yn) ∧ wr.cell? ⟨g4, i * 3 + 1, none⟩ = some (.int .i64 yv) ∧ wr.cell? ⟨g4, i * 3 + 2, none⟩ = some (.slice ya ym yc) ∧ FdA wr ya ym ys := by
                rcases (show i = 0 ∨ i = 1 by omega) with rfl | rfl
                · exact ⟨fn, fv, af, m, cf, es, HGr.out.cell 0, HGr.out.cell 1, HGr.out.cell 2, HF0.out.below HB.out⟩
                · exact ⟨n24, v24, p24, l4, kc24, ys4, HGr.out.cell 3, HGr.out.cell 4, HGr.out.cell 5, HF1.out.below HB.out⟩
              have HFd := Lib.hid hFd; clear hFd; go_upto_region 6 with (fail)
              obtain ⟨I, hI⟩ : ∃ I, I = wr.heap.size := ⟨_, rfl⟩
              obtain ⟨Z, hZ⟩ : ∃ Z, Z = wr.alloc (.cells #[.string yn, .int .i64 yv, .slice ya ym yc] 26) := ⟨_, rfl⟩
              have HIB := Lib.hid (show Blk I #[.string yn, .int .i64 yv, .slice ya ym yc] 26 Z from by rw [hZ, hI]; exact Blk.new wr _ _)
              have HrZ := Lib.hid (show Below wr.heap.size wr Z from by rw [hZ]; exact below_box wr _)
              have HFz := Lib.hid (HFd.out.below HrZ.out)
              have HLZ := Lib.hid (HLr.out.trans (HrZ.out.mono HLr.out.size))
              have HXZ := Lib.hid (HB.out.trans (HrZ.out.mono HB.out.size))
              rw [← hZ, ← hI]; clear hZ hI k0 k1 k2 HFd HrZ HGr HLr HB; obtain ⟨X0, hX0⟩ : ∃ X0, X0 = x := ⟨_, rfl⟩
              rw [← hX0] at HXZ HF0 HF1 HG HLX
              have HX0 := Lib.hid hX0; clear hX0; refine wp_region_tail 3 (by kernel_rfl) (fun listed a x => ∃ (l0 l1 l2 : Bool) (t41 t42 t43 : Value), listed = #[l0, l1, l2, false, false] ∧ a = ⟨(.agg #[.string fn, .int .i64 fv, .slice af m cf] :: .string zn :: .slice ao len cap :: .pointer (some ⟨w.heap.size, 0, none⟩) :: undef :: undef :: u6 :: undef :: .pointer (some ⟨I, 0, none⟩) :: undef :: u10 :: u11 :: u12 :: u13 :: u14 :: u15 :: u16 :: .slice ao len cap :: .bool true :: .bool false :: .bool false :: .agg #[.string fn, .int .i64 fv, .slice af m cf] :: .bool true :: .bool false :: .bool false :: .bool false :: .string zn :: .int .i64 zn.size :: .bool (decide ((100 : Int) < (zn.size : Int))) :: .bool (decide ((100 : Int) < (zn.size : Int))) :: undef :: t31 :: t32 :: t33 :: t34 :: .slice (some ⟨g4, 0, none⟩) 2 2 :: .int .i64 2 :: .int .i64 i :: .bool true :: .pointer (some ⟨g4, i * 3, none⟩) :: .agg #[.string yn, .int .i64 yv, .slice ya ym yc] :: t41 :: t42 :: t43 :: u44 :: u45 :: u46 :: u47 :: u48 :: u49 :: u50 :: u51 :: u52 :: u53 :: u54 :: u55 :: u56 :: u57 :: u58 :: u59 :: u60 :: u61 :: u62 :: u63 :: u64 :: u65 :: u66 :: u67 :: u68 :: u69 :: u70 :: u71 :: u72 :: u73 :: u74 :: u75 :: u76 :: u77 :: u78 :: u79 :: u80 :: u81 :: u82 :: u83 :: u84 :: u85 :: u86 :: u87 :: u88 :: u89 :: u90 :: undef :: []).toArray, []⟩ ∧ Hid (l0 = true → t41 = .agg #[.string yn, .int .i64 yv, .slice ya ym yc]) ∧ Hid (l1 = true → t42 = .int .i64 (feedV yn yv ys)) ∧ Hid (l2 = true → t43 = .agg #[.string yn, .int .i64 yv, .slice ya ym yc]) ∧ Hid (Made Z x)) (by decide) (by kernel_rfl) (by kernel_rfl) ?_ ?_ ?_ ?_
              · exact ⟨false, false, false, _, _, _, rfl, rfl, Lib.hid (fun h => by cases h), Lib.hid (fun h => by cases h), Lib.hid (fun h => by cases h), Lib.hid (Made.start Z)⟩
              · intro listed a x hj; obtain ⟨l0, hj⟩ := hj
                obtain ⟨l1, hj⟩ := hj; obtain ⟨l2, hj⟩ := hj; obtain ⟨t41, hj⟩ := hj; obtain ⟨t42, hj⟩ := hj; obtain ⟨t43, hj⟩ := hj; obtain ⟨h1, -⟩ := hj; subst h1; exact ⟨rfl, fun k h1 h2 => by (have h2 : k < 5 := h2); rcases (show k = 3 ∨ k = 4 by omega) with rfl | rfl <;> rfl⟩
              · intro listed a x i hj hlt hu haf; obtain ⟨l0, hj⟩ := hj
                obtain ⟨l1, hj⟩ := hj; obtain ⟨l2, hj⟩ := hj; obtain ⟨t41, hj⟩ := hj; obtain ⟨t42, hj⟩ := hj; obtain ⟨t43, hj⟩ := hj; obtain ⟨hl_, hj⟩ := hj; obtain ⟨ha_, hj⟩ := hj; obtain ⟨H0, hj⟩ := hj; obtain ⟨H1, hj⟩ := hj; obtain ⟨H2, hj⟩ := hj; have HS := hj; clear hj; subst hl_; subst ha_; rcases (show ∀ i : Nat, i < 3 → (i = 0 ∨ i = 1 ∨ i = 2) by decide) i hlt with rfl | rfl | rfl
                · have haf := haf _ rfl; clear haf
                  have hu : l0 = false := hu
                  have x0 : x.cell? ⟨I, 0, none⟩ = some (.string yn) := (HS.out.blk HIB.out).cell 0
                  have x1 : x.cell? ⟨I, 1, none⟩ = some (.int .i64 yv) := (HS.out.blk HIB.out).cell 1
                  have x2 : x.cell? ⟨I, 2, none⟩ = some (.slice ya ym yc) := (HS.out.blk HIB.out).cell 2
                  refine wpOp_of_list_any rfl fun QQ hQ => ?_
                  have hQQ := Lib.hid hQ; clear hQ; simp only [List.getElem_toArray, List.getElem_cons_zero]
                  go_wp2_with fail
                  exact hQQ.out _ _ ⟨true, l1, l2, _, _, _, rfl, rfl, Lib.hid (fun _ => rfl), H1, H2, HS⟩
                · have haf := haf _ rfl; have q0 : l0 = true := haf ⟨0, Go.Ground.data⟩ (by simp) rfl
                  clear haf; have hu : l1 = false := hu
                  have e0 := (H0.out q0)
                  subst e0; clear H0; refine wpOp_of_list_any rfl fun QQ hQ => ?_
                  have hQQ := Lib.hid hQ; clear hQ; simp only [List.getElem_toArray, List.getElem_cons_zero, List.getElem_cons_succ]
                  go_wp2_with fail
                  refine (show Calls Tryz.prog 46 #[.agg #[.string yn, .int .i64 yv, .slice ya ym yc]] x _ from by have h := valid46 yn yv ys ya yc Z.heap.size x HS.out.below.size (HFz.out.evs.below HS.out.below) (by have := HFz.out.len; have := HFz.out.few; omega); rw [← HFz.out.len] at h; exact h).mono ?_
                  rintro y x1 ⟨rfl, hb1⟩; have hk := Kept.made (B := Z.heap.size) hb1
                  have HS1 := Lib.hid (HS.out.then hb1)
                  clear hb1; go_wp2_with fail
                  exact hQQ.out _ _ ⟨l0, true, l2, _, _, _, rfl, rfl, Lib.hid (fun _ => rfl), Lib.hid (fun _ => rfl), H2, HS1⟩
                · have haf := haf _ rfl; clear haf
                  have hu : l2 = false := hu
                  have x0 : x.cell? ⟨I, 0, none⟩ = some (.string yn) := (HS.out.blk HIB.out).cell 0
                  have x1 : x.cell? ⟨I, 1, none⟩ = some (.int .i64 yv) := (HS.out.blk HIB.out).cell 1
                  have x2 : x.cell? ⟨I, 2, none⟩ = some (.slice ya ym yc) := (HS.out.blk HIB.out).cell 2
                  refine wpOp_of_list_any rfl fun QQ hQ => ?_
                  have hQQ := Lib.hid hQ; clear hQ; simp only [List.getElem_toArray, List.getElem_cons_zero, List.getElem_cons_succ]
                  go_wp2_with fail
                  exact hQQ.out _ _ ⟨l0, l1, true, _, _, _, rfl, rfl, H0, H1, Lib.hid (fun _ => rfl), HS⟩
              · intro listed a x hj hall; obtain ⟨l0, hj⟩ := hj
                obtain ⟨l1, hj⟩ := hj; obtain ⟨l2, hj⟩ := hj; obtain ⟨t41, hj⟩ := hj; obtain ⟨t42, hj⟩ := hj; obtain ⟨t43, hj⟩ := hj; obtain ⟨hl_, hj⟩ := hj; obtain ⟨ha_, hj⟩ := hj; obtain ⟨H0, hj⟩ := hj; obtain ⟨H1, hj⟩ := hj; obtain ⟨H2, hj⟩ := hj; have HS := hj; clear hj; subst hl_; subst ha_; have q1 : l1 = true := hall 1 (by omega)
                have q2 : l2 = true := hall 2 (by omega)
                clear hall; have e1 := (H1.out q1)
                subst e1; have e2 := (H2.out q2)
                subst e2; have hff : (feedV yn yv ys != feedV yn yv ys) = false := by simp
                refine tail_any (fun a x => ∃ (t41 t42 t43 t44 t45 : Value), a = ⟨(.agg #[.string fn, .int .i64 fv, .slice af m cf] :: .string zn :: .slice ao len cap :: .pointer (some ⟨w.heap.size, 0, none⟩) :: undef :: undef :: u6 :: undef :: .pointer (some ⟨I, 0, none⟩) :: undef :: u10 :: u11 :: u12 :: u13 :: u14 :: u15 :: u16 :: .slice ao len cap :: .bool true :: .bool false :: .bool false :: .agg #[.string fn, .int .i64 fv, .slice af m cf] :: .bool true :: .bool false :: .bool false :: .bool false :: .string zn :: .int .i64 zn.size :: .bool (decide ((100 : Int) < (zn.size : Int))) :: .bool (decide ((100 : Int) < (zn.size : Int))) :: undef :: t31 :: t32 :: t33 :: t34 :: .slice (some ⟨g4, 0, none⟩) 2 2 :: .int .i64 2 :: .int .i64 i :: .bool true :: .pointer (some ⟨g4, i * 3, none⟩) :: .agg #[.string yn, .int .i64 yv, .slice ya ym yc] :: t41 :: t42 :: t43 :: t44 :: t45 :: u46 :: u47 :: u48 :: u49 :: u50 :: u51 :: u52 :: u53 :: u54 :: u55 :: u56 :: u57 :: u58 :: u59 :: u60 :: u61 :: u62 :: u63 :: u64 :: u65 :: u66 :: u67 :: u68 :: u69 :: u70 :: u71 :: u72 :: u73 :: u74 :: u75 :: u76 :: u77 :: u78 :: u79 :: u80 :: u81 :: u82 :: u83 :: u84 :: u85 :: u86 :: u87 :: u88 :: u89 :: u90 :: undef :: []).toArray, []⟩ ∧ t45 = .bool false ∧ Below Z.heap.size Z x) ?_ fun QQ hQ => ?_
                · intro a x hpost; obtain ⟨t41, hpost⟩ := hpost
                  obtain ⟨t42, hpost⟩ := hpost; obtain ⟨t43, hpost⟩ := hpost; obtain ⟨t44, hpost⟩ := hpost; obtain ⟨t45, hpost⟩ := hpost; obtain ⟨ha_, hpost⟩ := hpost; subst ha_; obtain ⟨rfl, hb6⟩ := hpost; have HZx := Lib.hid hb6; clear hb6; go_upto_block 2 with fail
                  obtain ⟨Sb, hSb⟩ : ∃ Sb, Sb = x.heap.size := ⟨_, rfl⟩
                  obtain ⟨V, hV⟩ : ∃ V, V = x.alloc (.cells #[.string zn, .string ⟨#[99, 97, 109, 112, 117, 115]⟩] 9) := ⟨_, rfl⟩
                  have HSB := Lib.hid (show Blk Sb #[.string zn, .string ⟨#[99, 97, 109, 112, 117, 115]⟩] 9 V from by rw [hV, hSb]; exact Blk.new x _ _)
                  have HxV := Lib.hid (show Below x.heap.size x V from by rw [hV]; exact below_box x _)
                  have HZV := Lib.hid (HZx.out.trans (HxV.out.mono HZx.out.size))
                  have HFV := Lib.hid (HFz.out.below HZV.out)
                  have HIV := Lib.hid (HIB.out.below HZV.out HIB.out.lt)
                  have HLV := Lib.hid (HLZ.out.trans (HZV.out.mono HLZ.out.size))
                  have HXV := Lib.hid (HXZ.out.trans (HZV.out.mono HXZ.out.size))
                  rw [← hV, ← hSb]; clear hV hSb HZx HxV HZV HFz HIB HLZ HXZ; go_wp2_with fail
                  go_loopw [49] (fun jv wr => ∃ j : Nat, jv = .int .i64 j ∧ j ≤ 2 ∧ Hid (Below V.heap.size V wr)) (fun jv _ => 2 - (intOf jv).toNat)
                  case atStart => exact ⟨0, rfl, Nat.zero_le _, Lib.hid (Below.refl _ _)⟩
                  case round =>
                    obtain ⟨j, rfl, hj2, HJ⟩ := hrel; by_cases hjt : j < 2
                    · have hjti : (j : Int) < 2 := by omega
                      have HSr := Lib.hid (HSB.out.below HJ.out HSB.out.lt)
                      obtain ⟨zz, hzz⟩ : ∃ zz, wr.cell? ⟨Sb, j, none⟩ = some (.string zz) := by
                        rcases (show j = 0 ∨ j = 1 by omega) with rfl | rfl
                        · exact ⟨_, HSr.out.cell 0⟩
                        · exact ⟨_, HSr.out.cell 1⟩
                      have HIr := Lib.hid (HIV.out.below HJ.out HIV.out.lt)
                      have HFr := Lib.hid (HFV.out.below HJ.out)
                      have HLr := Lib.hid (HLV.out.trans (HJ.out.mono HLV.out.size))
                      obtain ⟨S, hS⟩ : ∃ S, S = str (formatV yn yv ys zz).1 := ⟨_, rfl⟩
                      obtain ⟨E, hE⟩ : ∃ E, E = (formatV yn yv ys zz).2 := ⟨_, rfl⟩
                      have HSE := Lib.hid hS; have HEE := Lib.hid hE; have HC48 : Hid (Calls Tryz.prog 48 #[.agg #[.string yn, .int .i64 yv, .slice ya ym yc], .string zz] wr fun e w' => e = .returned (.tuple #[.string S, .int .i64 E]) ∧ Below wr.heap.size wr w') := Lib.hid (by have h := format48 yn yv ya yc ys zz wr.heap.size wr (Nat.le_refl _) HFr.out.evs (by have := HFr.out.len; have := HFr.out.few; omega) (HLens.out _ HLr.out) (HPow.out _ HLr.out) (by have := HLr.out.size; have := HSix.out; omega); rw [← HFr.out.len, ← hS, ← hE] at h; exact h)
                      have HC49 : Hid (∀ W, Below wr.heap.size wr W → Calls Tryz.prog 49 #[.agg #[.string yn, .int .i64 yv, .slice ya ym yc], .string zz] W fun e w' => e = .returned (.tuple #[.string S, .int .i64 E]) ∧ Below W.heap.size W w') := Lib.hid (fun W hW => by have h := format49 yn yv ya yc ys zz wr.heap.size W hW.size (HFr.out.evs.below hW) (by have := HFr.out.len; have := HFr.out.few; omega); rw [← HFr.out.len, ← hS, ← hE] at h; exact h)
                      clear hS hE HSr; have a0 : wr.cell? ⟨I, 0, none⟩ = some (.string yn) := HIr.out.cell 0
                      have a1 : wr.cell? ⟨I, 1, none⟩ = some (.int .i64 yv) := HIr.out.cell 1
                      have a2 : wr.cell? ⟨I, 2, none⟩ = some (.slice ya ym yc) := HIr.out.cell 2
                      go_wp2_with fail
                      refine HC48.out.mono ?_
                      rintro e x2 ⟨rfl, hb2⟩; have HB2 := Lib.hid hb2; have HI2 := Lib.hid (HIr.out.below hb2 HIr.out.lt)
                      clear hb2 a0 a1 a2 hzz HC48; have a0 : x2.cell? ⟨I, 0, none⟩ = some (.string yn) := HI2.out.cell 0
                      have a1 : x2.cell? ⟨I, 1, none⟩ = some (.int .i64 yv) := HI2.out.cell 1
                      have a2 : x2.cell? ⟨I, 2, none⟩ = some (.slice ya ym yc) := HI2.out.cell 2
                      go_wp2_with fail
                      refine (HC49.out _ HB2.out).mono ?_
                      rintro e x3 ⟨rfl, hb3⟩; have HB3 := Lib.hid (HB2.out.trans (hb3.mono HB2.out.size))
                      clear hb3 a0 a1 a2 HC49 HI2 HB2; by_cases hE0 : E = 0
                      · obtain ⟨f1, f2, f3, f4⟩ := format_ok (HEE.out.symm.trans hE0)
                        have HC50 : Hid (Calls Tryz.prog 50 #[.string S, .string zz] x3 fun x w' => ∃ (pu : Option Addr) (cu : Nat) (ts : List (Ev × Value × Value)), ts.map (·.1) = ys ∧ x = .returned (.tuple #[.agg #[.string yn, .int .i64 yv, .slice pu ts.length cu], .int .i64 0]) ∧ RowT x3.heap.size w' (.slice pu ts.length cu) ts ∧ Below x3.heap.size x3 w') := Lib.hid (by
                          have hl3 := HLr.out.trans (HB3.out.mono HLr.out.size)
                          refine parse50 S yn zz yv mx ys x3 (by rw [HSE.out, f4, show (str (feedT yn.data.toList yv ys zz.data.toList)).size = (feedT yn.data.toList yv ys zz.data.toList).length from size_mk _]; exact f3) f1 f2 HFr.out.evs.each (by rw [HSE.out, f4]; exact feedT_unf f1 f2) (HMx.out _ hl3) (HLens.out _ hl3) (HPow.out _ hl3) (by have := hl3.size; have := HSix.out; omega))
                        have hez : (E != 0) = false := by simp [hE0]
                        clear f1 f2 f3 f4; subst hE0; go_wp2_with fail
                        refine HC50.out.mono ?_
                        rintro e x4 ⟨pu, cu, ts, hts, rfl, hrow, hb4⟩; have HTS := Lib.hid hts; have HRT := Lib.hid hrow; have HB4 := Lib.hid hb4; clear hts hrow hb4 HC50; go_upto_region 17 with (fail)
                        obtain ⟨K, hK⟩ : ∃ K, K = x4.heap.size := ⟨_, rfl⟩
                        obtain ⟨U, hU⟩ : ∃ U, U = x4.alloc (.cells #[.string yn, .int .i64 yv, .slice pu ts.length cu] 26) := ⟨_, rfl⟩
                        have HKB := Lib.hid (show Blk K #[.string yn, .int .i64 yv, .slice pu ts.length cu] 26 U from by rw [hU, hK]; exact Blk.new x4 _ _)
                        have HxU := Lib.hid (show Below x4.heap.size x4 U from by rw [hU]; exact below_box x4 _)
                        have HrU := Lib.hid (HB3.out.trans ((HB4.out.trans (HxU.out.mono HB4.out.size)).mono HB3.out.size))
                        have HIU := Lib.hid (HIr.out.below HrU.out HIr.out.lt)
                        have HRU := Lib.hid (HRT.out.made HxU.out)
                        have HFU := Lib.hid (HFr.out.below HrU.out)
                        rw [← hU, ← hK]; clear hU hK HRT HB4 HxU HB3; have HC51 : Hid (Calls Tryz.prog 51 #[.agg #[.string yn, .int .i64 yv, .slice pu ts.length cu], .agg #[.string yn, .int .i64 yv, .slice ya ym yc]] U fun e w' => e = .returned (.bool true) ∧ Below U.heap.size U w') := Lib.hid (by
                          obtain ⟨qa, qc, hq, -, hsg⟩ := HRU.out.seg
                          rw [Value.slice.injEq] at hq
                          have h := same51 yn yn yv yv (ts.map (·.1)) ys pu ya cu yc U (by rw [hq.1]; exact hsg.evs) HFU.out.evs (by rw [HTS.out]; have := HFU.out.len; have := HFU.out.few; omega) ⟨rfl, rfl, HTS.out⟩
                          rw [List.length_map, ← HFU.out.len] at h
                          exact h)
                        have a0 : U.cell? ⟨I, 0, none⟩ = some (.string yn) := HIU.out.cell 0
                        have a1 : U.cell? ⟨I, 1, none⟩ = some (.int .i64 yv) := HIU.out.cell 1
                        have a2 : U.cell? ⟨I, 2, none⟩ = some (.slice ya ym yc) := HIU.out.cell 2
                        have b0 : U.cell? ⟨K, 0, none⟩ = some (.string yn) := HKB.out.cell 0
                        have b1 : U.cell? ⟨K, 1, none⟩ = some (.int .i64 yv) := HKB.out.cell 1
                        have b2 : U.cell? ⟨K, 2, none⟩ = some (.slice pu ts.length cu) := HKB.out.cell 2
                        go_wp2_with fail
                        refine HC51.out.mono ?_
                        rintro e x5 ⟨rfl, hb5⟩; have HW5 := Lib.hid (HJ.out.trans ((HrU.out.trans (hb5.mono HrU.out.size)).mono HJ.out.size))
                        clear hb5 HC51 a0 a1 a2 b0 b1 b2; go_wp2_with fail
                        go_roundw
                        case rel => exact ⟨j + 1, by go_num, by omega, HW5⟩
                        case measure => simp [intOf]; omega
                      · have hez : (E != 0) = true := by simp [hE0]
                        have HW5 := Lib.hid (HJ.out.trans (HB3.out.mono HJ.out.size))
                        go_wp2_with fail
                        go_roundw
                        case rel => exact ⟨j + 1, by go_num, by omega, HW5⟩
                        case measure => simp [intOf]; omega
                    · have hjti : ¬ (j : Int) < 2 := by omega
                      go_wp2_with fail
                      go_roundw
                      case rel => exact ⟨i + 1, by go_num, by omega, Lib.hid (by rw [← HX0.out]; exact HXV.out.trans (HJ.out.mono HXV.out.size))⟩
                      case measure => simp [intOf]; omega
                have hQQ := Lib.hid hQ; clear hQ; simp only [List.drop_succ_cons, List.drop_zero]
                go_wp2_with fail
                refine (show Calls Tryz.prog 47 #[.agg #[.string yn, .int .i64 yv, .slice ya ym yc]] x _ from by have h := valid47 yn yv ys ya yc Z.heap.size x HS.out.below.size (HFz.out.evs.below HS.out.below) (by have := HFz.out.len; have := HFz.out.few; omega); rw [← HFz.out.len] at h; exact h).mono ?_
                rintro y x1 ⟨rfl, hb1⟩; have HS1 := Lib.hid (HS.out.then hb1)
                clear hb1; go_wp2_with fail
                exact hQQ.out _ _ ⟨_, _, _, _, _, rfl, rfl, HS1.out.below⟩
            · have hiti : ¬ (i : Int) < 2 := by omega
              go_wp2_with fail
              refine (HAW.out _ HLr.out).mono ?_
              rintro e w2 ⟨rfl, hb⟩; go_wp2_with fail
              go_ret; exact ⟨rfl, HLr.out.trans (hb.mono HLr.out.size)⟩
  · have hd1 : decide ((len : Int) ≤ 400) = false := decide_eq_false hlen
    go_enter Tryz.func8, Tryz.ntmps8
    go_upto_region 1 with (fail)
    rw [← hw0]; clear hw0; go_wp2_with fail
    refine (light_any _ _ _ _).mono ?_
    rintro e w1 ⟨rfl, hw⟩; rw [hw, hd1]
    clear hw w1 hd1; go_wp2_with fail
    refine (HAW.out _ HL0.out).mono ?_
    rintro e w2 ⟨rfl, hb⟩; go_wp2_with fail
    go_ret; exact ⟨rfl, HL0.out.trans (hb.mono HL0.out.size)⟩
end Go.Proofs.YtageielcdebjlaaGreatDoor
