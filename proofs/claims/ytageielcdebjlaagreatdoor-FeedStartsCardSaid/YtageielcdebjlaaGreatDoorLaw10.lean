/- FeedStarts: the walk. -/
import Derived.Test.YtageielcdebjlaaGreatDoorGenW
import Derived.Test.YtageielcdebjlaaGreatDoorGenY
import Derived.Test.YtageielcdebjlaaGreatDoorAwakeAll
namespace Go.Proofs.YtageielcdebjlaaGreatDoor
open Go.RowKit

/-- An event that can be read: its lists lie in memory. -/
def Read (w : World) (t : Ev × Value × Value) : Prop := EvB t.1 ∧ ∃ p c p2 c2, t.2.1 = .slice p t.1.days.ex.length c ∧ t.2.2 = .slice p2 t.1.days.xt.length c2 ∧ Ints w.heap.size w p t.1.days.ex ∧ Ints w.heap.size w p2 t.1.days.xt
theorem Read.below {w w' : World} {t : Ev × Value × Value} (h : Read w t) (hb : Below w.heap.size w w') : Read w' t := by
  obtain ⟨h1, p, c, p2, c2, e1, e2, i1, i2⟩ := h
  exact ⟨h1, p, c, p2, c2, e1, e2, (i1.below hb).mono hb.size, (i2.below hb).mono hb.size⟩
theorem RefG.read {lo : Nat} {w : World} {t : Ev × Value × Value} (h : RefG lo w t) : Read w t := by
  obtain ⟨p, c, e1, i1⟩ := h.2.1.ints
  obtain ⟨p2, c2, e2, i2⟩ := h.2.2.ints
  exact ⟨h.1.b, p, c, p2, c2, e1, e2, i1, i2⟩
theorem blk_evc {g : Nat} {e : Ev} {v v' : Value} {w : World} (h : Blk g (evCells e v v') 82 w) : EvC g 0 e v v' w := EvBox.c h
theorem but_below' {b B : Nat} {w w1 : World} (h : But b B w w1) (hB : B ≤ b) : Below B w w1 := h.below hB (Nat.le_refl _)

theorem tCells_cons (t : Ev × Value × Value) (ts : List (Ev × Value × Value)) : tCells (t :: ts) = tCells [t] ++ tCells ts := by unfold tCells; simp
theorem row_evc {w : World} {B n c g : Nat} {all : List (Ev × Value × Value)} (h : w.ownsRow B 82 13 (.slice (some ⟨g, 0, none⟩) n c) n (tCells all)) (k : Nat) (t : Ev × Value × Value) (ht : all[k]? = some t) : EvC g (k * 13) t.1 t.2.1 t.2.2 w := by
  have hc : ∀ i u, i < 13 → (evCells t.1 t.2.1 t.2.2).toList[i]? = some u → w.cell? ⟨g, k * 13 + i, none⟩ = some u := fun i u hi hu => by
    have := h.cells (g := g) rfl (k * 13 + i) u (by rw [tCells_get all k i t ht hi]; exact hu)
    rw [Addr.add_lit] at this
    simpa using this
  exact ⟨hc 0 _ (by decide) rfl, hc 1 _ (by decide) rfl, hc 2 _ (by decide) rfl, hc 3 _ (by decide) rfl, hc 4 _ (by decide) rfl, hc 5 _ (by decide) rfl, hc 6 _ (by decide) rfl, hc 7 _ (by decide) rfl, hc 8 _ (by decide) rfl, hc 9 _ (by decide) rfl, hc 10 _ (by decide) rfl, hc 11 _ (by decide) rfl, hc 12 _ (by decide) rfl⟩

/-- What a drawn region has done so far: it has made blocks. -/
structure Grow (w w' : World) : Prop where
  below : Below w.heap.size w w'
theorem Grow.start (w : World) : Grow w w.drew := ⟨below_drw (Below.refl _ w)⟩
theorem Grow.then {w w1 w2 : World} (h : Grow w w1) (k : Below w1.heap.size w1 w2) : Grow w w2 := ⟨below_then h.below k⟩
theorem Grow.blk {w w1 : World} (h : Grow w w1) {g : Nat} {cs : Array Value} {ty : TypeId} (k : Blk g cs ty w) : Blk g cs ty w1 := k.below h.below k.lt
theorem row_below' {w w' : World} {B k : Nat} {e : TypeId} {v : Value} {n : Nat} {xs : List Value} (h : w.ownsRow B e k v n xs) (hb : Below w.heap.size w w') : w'.ownsRow B e k v n xs := by
  refine ⟨h.1, ?_⟩
  rcases h.2 with h1 | ⟨g, cap, cur, r1, r2, r3, r4⟩
  · exact .inl h1
  · exact .inr ⟨g, cap, cur, r1, r2, (hb.block g (Array.getElem?_eq_some_iff.1 r3).1).trans r3, r4⟩
theorem Kept.of_below {B : Nat} {w w' : World} (h : Below w.heap.size w w') : Kept B w w' := fun _ _ _ _ hk => hk.below h hk.lt

set_option maxHeartbeats 32000000 in
set_option maxRecDepth 100000 in
theorem law10 (raw : Ev) (p p2 : Option Addr) (c c2 : Nat) (ao : Option Addr) (len cap : Nat) (w : World) (m : Int) (hm : w.cell? ⟨0, 0, none⟩ = some (.int .i64 m)) (h0 : 0 < w.heap.size) (hn : Nums w ao len)
    (hI : Ints w.heap.size w p raw.days.ex) (hI2 : Ints w.heap.size w p2 raw.days.xt) (hb : EvB raw) :
    Calls Tryz.prog 10 #[evVal raw (.slice p raw.days.ex.length c) (.slice p2 raw.days.xt.length c2), .slice ao len cap] w fun e w' => e = .returned (.bool true) ∧ Below w.heap.size w w' := by
  obtain ⟨i0, hi, hz0, hz1, hz2⟩ := info_parts infoEv
  have HN := Lib.hid hn
  have HM := Lib.hid hm
  have HI := Lib.hid hI
  have HI2 := Lib.hid hI2
  have HBR := Lib.hid hb
  clear hn hm hI hI2 hb
  have HX0 := Lib.hid (Blk.new w (evCells raw (.slice p raw.days.ex.length c) (.slice p2 raw.days.xt.length c2)) 82)
  have hL0 := below_box w (.cells (evCells raw (.slice p raw.days.ex.length c) (.slice p2 raw.days.xt.length c2)) 82)
  have HM0 := Lib.hid ((hL0.cell (p := ⟨0, 0, none⟩) h0).trans HM.out)
  by_cases hlen : (len : Int) ≤ 400
  · have hd1 : decide ((len : Int) ≤ 400) = true := decide_eq_true hlen
    obtain ⟨w0, hw0⟩ : ∃ w0, w0 = w.alloc (.cells (evCells raw (.slice p raw.days.ex.length c) (.slice p2 raw.days.xt.length c2)) 82) := ⟨_, rfl⟩
    rw [← hw0] at HX0 hL0 HM0
    have hs0 : w.heap.size + 1 ≤ w0.heap.size := by rw [hw0]; simp
    have HX1 := Lib.hid (HX0.out.alloc (.cells (evCells raw (.slice p raw.days.ex.length c) (.slice p2 raw.days.xt.length c2)) 82))
    have HY1 := Lib.hid (Blk.new w0 (evCells raw (.slice p raw.days.ex.length c) (.slice p2 raw.days.xt.length c2)) 82)
    have hL1 := hL0.alloc (by omega) (.cells (evCells raw (.slice p raw.days.ex.length c) (.slice p2 raw.days.xt.length c2)) 82)
    have HL1 := Lib.hid hL1
    have HM1 := Lib.hid ((hL1.cell (p := ⟨0, 0, none⟩) h0).trans HM.out)
    have hs1 : w0.heap.size < (w0.alloc (.cells (evCells raw (.slice p raw.days.ex.length c) (.slice p2 raw.days.xt.length c2)) 82)).heap.size := by simp
    have HSB : Hid (∀ W, W = w0.alloc (.cells (evCells raw (.slice p raw.days.ex.length c) (.slice p2 raw.days.xt.length c2)) 82) → Calls Tryz.prog 44 #[.agg #[.string ⟨#[]⟩, .int .i64 0, .slice (some ⟨w0.heap.size, 0, none⟩) 1 1]] W (SomeBool W)) := Lib.hid (fun W hW => by
      subst hW
      exact short44 ⟨#[]⟩ 0 w0.heap.size raw p p2 c c2 _ hs1 (blk_evc HY1.out) HBR.out)
    have y0 : w0.cell? ⟨w.heap.size, 0, none⟩ = some (.string raw.uid) := HX0.out.cell 0
    have y1 : w0.cell? ⟨w.heap.size, 1, none⟩ = some (.int .i64 raw.seq) := HX0.out.cell 1
    have y2 : w0.cell? ⟨w.heap.size, 2, none⟩ = some (.bool raw.canc) := HX0.out.cell 2
    have y3 : w0.cell? ⟨w.heap.size, 3, none⟩ = some (.int .i64 raw.days.first) := HX0.out.cell 3
    have y4 : w0.cell? ⟨w.heap.size, 4, none⟩ = some (.int .i64 raw.days.last) := HX0.out.cell 4
    have y5 : w0.cell? ⟨w.heap.size, 5, none⟩ = some (.int .i64 raw.days.every) := HX0.out.cell 5
    have y6 : w0.cell? ⟨w.heap.size, 6, none⟩ = some (.int .i64 raw.days.wd) := HX0.out.cell 6
    have y7 : w0.cell? ⟨w.heap.size, 7, none⟩ = some (.slice p raw.days.ex.length c) := HX0.out.cell 7
    have y8 : w0.cell? ⟨w.heap.size, 8, none⟩ = some (.slice p2 raw.days.xt.length c2) := HX0.out.cell 8
    have y9 : w0.cell? ⟨w.heap.size, 9, none⟩ = some (.int .i64 raw.start) := HX0.out.cell 9
    have y10 : w0.cell? ⟨w.heap.size, 10, none⟩ = some (.int .i64 raw.mins) := HX0.out.cell 10
    have y11 : w0.cell? ⟨w.heap.size, 11, none⟩ = some (.string raw.summ) := HX0.out.cell 11
    have y12 : w0.cell? ⟨w.heap.size, 12, none⟩ = some (.string raw.loc) := HX0.out.cell 12
    clear HX0 hL1
    unfold evVal
    unfold evCells at hw0 ⊢
    have HW0 := Lib.hid hw0
    clear hw0
    go_enter Tryz.func10, Tryz.ntmps10
    go_upto_region 1 with (fail)
    rw [← HW0.out]
    clear HW0
    go_wp2_with fail
    refine (light_any _ _ _ _).mono ?_
    rintro e w1 ⟨rfl, hw⟩
    rw [hw, hd1]
    clear hw w1 hd1
    go_wp2_with fail
    refine (HSB.out _ rfl).mono ?_
    rintro e w2 ⟨z, rfl, hb2⟩
    have HL2 := Lib.hid (HL1.out.trans (hb2.mono HL1.out.size))
    have HX2 := Lib.hid (HX1.out.below hb2 (by have := HX1.out.lt; exact this))
    have HM2 := Lib.hid ((HL2.out.cell (p := ⟨0, 0, none⟩) h0).trans HM.out)
    have hs2 : w.heap.size < w2.heap.size := HX2.out.lt
    clear HSB HX1 HY1 HL1 HM1 hb2 hL0 HM0 y0 y1 y2 y3 y4 y5 y6 y7 y8 y9 y10 y11 y12 hs1
    have h02 : 0 < w2.heap.size := by omega
    cases z
    · go_wp2_with fail
      refine (awake_any w2 m HM2.out h02).mono ?_
      rintro e w3 ⟨rfl, hb3⟩
      go_wp2_with fail
      go_ret
      exact ⟨rfl, HL2.out.trans (hb3.mono HL2.out.size)⟩
    · go_wp2_with fail
      refine (roll_any ao len cap w2 (by omega) (HN.out.below HL2.out)).mono ?_
      rintro e w3 ⟨rfl, D3, L3, s3⟩
      obtain ⟨b, hbe⟩ : ∃ b, b = w2.heap.size := ⟨_, rfl⟩
      rw [← hbe] at D3 s3 ⊢
      have hwb : w.heap.size < b := by omega
      have HL3 := Lib.hid (HL2.out.trans (L3.mono HL2.out.size))
      have HX3 := Lib.hid (HX2.out.below L3 hs2)
      have hs3 : b < w3.heap.size := by omega
      have HD3 := Lib.hid D3
      clear D3 L3 HX2 hbe s3
      clear HM2
      go_wp2_with fail
      refine (zone30 b w3 HD3.out).mono ?_
      rintro e w4 ⟨zn, zv, pz, cz, sh, rfl, hzn, hzl, E4, hd4, ho4⟩
      have hwb2 : w.heap.size ≠ b := by omega
      have HL4 := Lib.hid (HL3.out.trans (ho4.below (B' := w.heap.size) (by omega) (by omega)))
      have HX4 := Lib.hid (HX3.out.but ho4 hwb2)
      have hs4 : b < w4.heap.size := hd4.lt
      have hs34 : w3.heap.size ≤ w4.heap.size := ho4.size
      have hZb : w4.heap.size ≠ b := by omega
      have HE4 := Lib.hid E4
      have HZ5 := Lib.hid (Blk.new w4 #[.string zn, .int .i64 zv, .slice pz sh.length cz] 50)
      have HE5 := Lib.hid (World.ownsRow.alloc E4 (.cells #[.string zn, .int .i64 zv, .slice pz sh.length cz] 50))
      have HD5 := Lib.hid (dice_alloc hd4 (.cells #[.string zn, .int .i64 zv, .slice pz sh.length cz] 50))
      have HX5 := Lib.hid (HX4.out.alloc (.cells #[.string zn, .int .i64 zv, .slice pz sh.length cz] 50))
      have HL5 := Lib.hid (HL4.out.alloc (by omega) (.cells #[.string zn, .int .i64 zv, .slice pz sh.length cz] 50))
      clear HX3 HL3 HD3 HE4 HX4 HL4 hd4 ho4 E4
      go_wp2_with fail
      refine (one_any b 6 _ HD5.out (by omega) (by omega)).mono ?_
      rintro e w6 ⟨z2, rfl, hd6, ho6⟩
      have HZ6 := Lib.hid (HZ5.out.only ho6 hZb)
      have HE6 := Lib.hid (show RowZ w3.heap.size w6 (.slice pz sh.length cz) sh from ownsRow_only HE5.out (by omega) ho6)
      have HX6 := Lib.hid (HX5.out.only ho6 hwb2)
      have HL6 := Lib.hid (HL5.out.trans ((but_below' (Only.but (B := w.heap.size) ho6) (by omega))))
      have HD6 := Lib.hid hd6
      obtain ⟨Z, hZ⟩ : ∃ Z, Z = w4.heap.size := ⟨_, rfl⟩
      have hs46 : w4.heap.size < w6.heap.size := HZ6.out.lt
      rw [← hZ] at HZ6 hZb hs34 hs4 hs46 ⊢
      have hs36 : w3.heap.size ≤ w6.heap.size := by omega
      clear hZ HZ5 HE5 HX5 HL5 HD5 hd6 ho6
      go_upto_if 30 with (fail)
      go_cut [6] (fun s6 wx => ∃ (zn : ByteArray) (zv : Int) (pz : Option Addr) (cz : Nat) (sh : List (Int × Int)), s6 = .pointer (some ⟨Z, 0, none⟩) ∧ sh.length ≤ 100 ∧ w6.heap.size ≤ wx.heap.size ∧ Hid (Blk Z #[.string zn, .int .i64 zv, .slice pz sh.length cz] 50 wx) ∧ Hid (RowZ w3.heap.size wx (.slice pz sh.length cz) sh) ∧ Hid (Blk w.heap.size (evCells raw (.slice p raw.days.ex.length c) (.slice p2 raw.days.xt.length c2)) 82 wx) ∧ Hid (Below w.heap.size w wx) ∧ Hid (Dice b wx))
      case first =>
        cases z2
        · go_wp2_with fail
          go_meet
          exact ⟨_, _, _, _, _, rfl, by omega, by omega, HZ6, HE6, HX6, HL6, HD6⟩
        · obtain ⟨q0, q1, q2⟩ := And.intro (HZ6.out.cell 0) (And.intro (HZ6.out.cell 1) (HZ6.out.cell 2))
          simp only [List.getElem?_toArray, List.getElem?_cons_zero, List.getElem?_cons_succ] at q0 q1 q2
          go_wp2_with fail
          refine (oddzone54 b w3.heap.size zn zv pz cz sh w6 HD6.out HE6.out hzn (by omega)).mono ?_
          rintro e w7 ⟨yn, yv, py, cy, ys, rfl, hyn, hyl, E7, hd7, ho7⟩
          have Z7 := HZ6.out.but ho7 hZb
          have X7 := HX6.out.but ho7 hwb2
          have L7 := HL6.out.trans (ho7.below (B' := w.heap.size) (by omega) (by omega))
          have hs67 := ho7.size
          have E7 : RowZ w3.heap.size w7 (.slice py ys.length cy) ys := ownsRow_mono E7 hs36
          clear q0 q1 q2 HZ6 HE6 HX6 HL6 HD6 ho7
          obtain ⟨q0, q1, q2⟩ := And.intro (Z7.cell 0) (And.intro (Z7.cell 1) (Z7.cell 2))
          simp only [List.getElem?_toArray, List.getElem?_cons_zero, List.getElem?_cons_succ] at q0 q1 q2
          obtain ⟨z0, z1, z2⟩ := And.intro (Z7.frozen 0) (And.intro (Z7.frozen 1) (Z7.frozen 2))
          obtain ⟨W, hW, B9, fX, fD, fK⟩ := fill3 Z7 (.string yn) (.int .i64 yv) (.slice py ys.length cy)
          have HW := Lib.hid hW
          have h9 : w7.heap.size ≤ W.heap.size := by rw [hW]; simp
          clear hW
          go_wp2_with fail
          go_meet
          rw [← HW.out]
          exact ⟨yn, yv, py, cy, ys, rfl, hyl, by omega, Lib.hid B9, Lib.hid (fX _ _ _ _ _ _ (by decide) E7), Lib.hid (by
            have h1 := ((X7.set_other (show w.heap.size ≠ Z by omega) 0 (.string yn)).set_other (show w.heap.size ≠ Z by omega) 1 (.int .i64 yv)).set_other (show w.heap.size ≠ Z by omega) 2 (.slice py ys.length cy)
            rw [HW.out]; exact h1), Lib.hid (by rw [HW.out]; exact ((L7.setCell (show w.heap.size ≤ Z by omega) _).setCell (show w.heap.size ≤ Z by omega) _).setCell (show w.heap.size ≤ Z by omega) _), Lib.hid (fD b (by omega) hd7)⟩
      case rest =>
        clear HZ6 HE6 HX6 HL6 HD6 hzl hzn
        obtain ⟨zn, zv, pz, cz, sh, rfl, hzl, hsw, HZ, HE, HX, HL, HD⟩ := hcut
        have hZc : Z < wc.heap.size := HZ.out.lt
        have hXc : w.heap.size < wc.heap.size := HX.out.lt
        go_wp2_with fail
        refine (some45 b wc HD.out).mono ?_
        rintro e w1 ⟨fn, fv, pu, cu, ts, rfl, -, htl, E1, hd1, ho1⟩
        have Z1 := HZ.out.but ho1 hZb
        have S1 : RowZ w3.heap.size w1 _ sh := row_but HE.out (by omega) ho1
        have X1 := HX.out.but ho1 hwb2
        have L1 := HL.out.trans (ho1.below (B' := w.heap.size) (by omega) (by omega))
        have hs1 := ho1.size
        clear HZ HE HX HL HD ho1
        have hF : w1.heap.size < (w1.alloc (.cells #[.string fn, .int .i64 fv, .slice pu ts.length cu] 26)).heap.size := by simp
        have F2 := Blk.new w1 #[.string fn, .int .i64 fv, .slice pu ts.length cu] 26
        have Z2 := Z1.alloc (.cells #[.string fn, .int .i64 fv, .slice pu ts.length cu] 26)
        have S2 := World.ownsRow.alloc S1 (.cells #[.string fn, .int .i64 fv, .slice pu ts.length cu] 26)
        have X2 := X1.alloc (.cells #[.string fn, .int .i64 fv, .slice pu ts.length cu] 26)
        have E2 := E1.alloc (.cells #[.string fn, .int .i64 fv, .slice pu ts.length cu] 26)
        have D2 := dice_alloc hd1 (.cells #[.string fn, .int .i64 fv, .slice pu ts.length cu] 26)
        have L2 := L1.alloc (by omega) (.cells #[.string fn, .int .i64 fv, .slice pu ts.length cu] 26)
        obtain ⟨F, hFe⟩ : ∃ F, F = w1.heap.size := ⟨_, rfl⟩
        obtain ⟨wf, hwf⟩ : ∃ wf, wf = w1.alloc (.cells #[.string fn, .int .i64 fv, .slice pu ts.length cu] 26) := ⟨_, rfl⟩
        rw [← hFe, ← hwf] at F2 hF
        rw [← hwf] at Z2 S2 X2 E2 D2 L2
        have hcF : wc.heap.size ≤ F := by omega
        have HFE := Lib.hid hFe
        have HWF := Lib.hid hwf
        clear hFe hwf Z1 S1 X1 E1 hd1 L1 hs1
        go_upto_region 8 with (fail)
        rw [← HFE.out, ← HWF.out]
        clear HFE HWF w1
        obtain ⟨u0, u1, u2, u3, u4, u5, u6, u7, u8, u9, u10, u11, u12⟩ := (blk_evc X2)
        simp only [Nat.zero_add] at u0 u1 u2 u3 u4 u5 u6 u7 u8 u9 u10 u11 u12
        have f2 : wf.cell? ⟨F, 2, none⟩ = some (.slice pu ts.length cu) := F2.cell 2
        have f2' : (wf.alloc (.cells (evCells raw (.slice p raw.days.ex.length c) (.slice p2 raw.days.xt.length c2)) 82)).cell? ⟨F, 2, none⟩ = some (.slice pu ts.length cu) := (F2.alloc (.cells (evCells raw (.slice p raw.days.ex.length c) (.slice p2 raw.days.xt.length c2)) 82)).cell 2
        have A3 : (wf.alloc (.cells (evCells raw (.slice p raw.days.ex.length c) (.slice p2 raw.days.xt.length c2)) 82)).ownsRow wf.heap.size 82 13 (.slice (some ⟨wf.heap.size, 0, none⟩) 1 1) 1 (tCells [(raw, (.slice p raw.days.ex.length c), (.slice p2 raw.days.xt.length c2))]) := ⟨rfl, .inr ⟨wf.heap.size, 1, evCells raw (.slice p raw.days.ex.length c) (.slice p2 raw.days.xt.length c2), rfl, Nat.le_refl _, heap_alloc_new wf _, Nat.le_refl _, by decide, rfl, rfl⟩⟩
        have Z3 := Z2.alloc (.cells (evCells raw (.slice p raw.days.ex.length c) (.slice p2 raw.days.xt.length c2)) 82)
        have S3 := World.ownsRow.alloc S2 (.cells (evCells raw (.slice p raw.days.ex.length c) (.slice p2 raw.days.xt.length c2)) 82)
        have E3 := E2.alloc (.cells (evCells raw (.slice p raw.days.ex.length c) (.slice p2 raw.days.xt.length c2)) 82)
        have D3 := dice_alloc D2 (.cells (evCells raw (.slice p raw.days.ex.length c) (.slice p2 raw.days.xt.length c2)) 82)
        have L3 := L2.alloc (by omega) (.cells (evCells raw (.slice p raw.days.ex.length c) (.slice p2 raw.days.xt.length c2)) 82)
        have hs3 : wf.heap.size < (wf.alloc (.cells (evCells raw (.slice p raw.days.ex.length c) (.slice p2 raw.days.xt.length c2)) 82)).heap.size := by simp
        unfold evCells at f2' A3 Z3 S3 E3 D3 L3 hs3
        go_wp2_with (at_builtin; refine wpList_append_row rfl (.tmp 37) (.tmp 39) 22 rfl wf.heap.size 82 i0 _ 13 160 Tryz.underlying22 hi hz0 hz1 hz2 rfl (by decide) _ _ _ rfl A3 wc.heap.size _ _ _ rfl E3.row E3.one (by unfold maxLen; omega) (by omega) (by omega) ?_)
        intro v' w9 hown hgrow hat
        have Z9 := Z3.grown A3 hgrow (by decide)
        have S9 := World.ownsRow.kept S3 hgrow (row_apart_ty S3 A3 (by decide))
        have L9 := L3.trans ((Below.refl _ _).grown hgrow (show w.heap.size ≤ _ by omega) (fun q hq => ((ownsRow_mono A3 (show w.heap.size ≤ wf.heap.size by omega)).lt q hq).1))
        have hrd : ∀ t ∈ (raw, (.slice p raw.days.ex.length c), (.slice p2 raw.days.xt.length c2)) :: ts, Read w9 t := by
          intro t ht
          rcases List.mem_cons.1 ht with rfl | h
          · exact ⟨HBR.out, p, c, p2, c2, rfl, rfl, (HI.out.below L9).mono L9.size, (HI2.out.below L9).mono L9.size⟩
          · exact ((E3.ref t h).grown A3 hgrow).read
        rw [← tCells_cons] at hown
        obtain ⟨all, hall⟩ : ∃ all, all = (raw, (.slice p raw.days.ex.length c), (.slice p2 raw.days.xt.length c2)) :: ts := ⟨_, rfl⟩
        have hlen9 : all.length = 1 + ts.length := by rw [hall, List.length_cons]; omega
        rw [← hall] at hown hrd
        clear hall
        obtain ⟨N, hNe⟩ : ∃ N, N = 1 + ts.length := ⟨_, rfl⟩
        rw [← hNe] at hown hlen9
        have hN1 : 1 ≤ N := by omega
        have hN2 : N ≤ 21 := by omega
        obtain ⟨ga, ca, hv⟩ := row_form hown (by omega)
        subst hv
        have HZ9 := Lib.hid Z9
        have HS9 := Lib.hid (show RowZ w3.heap.size w9 (.slice pz sh.length cz) sh from S9)
        have HL9 := Lib.hid L9
        have HA9 := Lib.hid hown
        have HR9 := Lib.hid hrd
        have HN9 := Lib.hid hlen9
        have HNE := Lib.hid hNe
        clear Z9 S9 L9 hown hrd hlen9 hNe hgrow hat A3 Z3 S3 E3 D3 L3 hs3 f2 f2' u0 u1 u2 u3 u4 u5 u6 u7 u8 u9 u10 u11 u12 F2 Z2 S2 X2 E2 D2 L2
        have hNi : (N : Int) ≤ 21 := by omega
        go_upto_region 9 with (fail)
        go_wp2_with fail
        go_loopw [9] (fun iv wr => ∃ k : Nat, iv = .int .i64 k ∧ k ≤ N ∧ k ≤ 9 ∧ Hid (Blk Z #[.string zn, .int .i64 zv, .slice pz sh.length cz] 50 wr) ∧ Hid (RowZ w3.heap.size wr (.slice pz sh.length cz) sh) ∧ Hid (wr.ownsRow wf.heap.size 82 13 (.slice (some ⟨ga, 0, none⟩) N ca) N (tCells all)) ∧ Hid (∀ t ∈ all, Read wr t) ∧ Hid (Below w.heap.size w wr)) (fun iv _ => N - (intOf iv).toNat)
        case atStart => exact ⟨0, rfl, by omega, by omega, HZ9, HS9, HA9, HR9, HL9⟩
        case round =>
          clear HZ9 HS9 HA9 HR9 HL9
          obtain ⟨k, rfl, hkN, hk9, HZ, HSZ, HA, HR, HL⟩ := hrel
          by_cases hgo : k < N ∧ k < 9
          · obtain ⟨hlt, hl9⟩ := hgo
            have hlti : (k : Int) < N := by omega
            have hl9i : (k : Int) < 9 := by omega
            go_wp2_with fail
            obtain ⟨⟨ev, va, vb⟩, ht⟩ : ∃ t, all[k]? = some t := ⟨_, List.getElem?_eq_getElem (by have := HN9.out; omega)⟩
            have HT := Lib.hid ht
            obtain ⟨gB, px, kx, py, ky, hx, hy, gI, gJ⟩ := HR.out _ (List.mem_of_getElem? ht)
            simp only at hx hy gI gJ gB
            subst hx
            subst hy
            have GB := Lib.hid gB
            have GI := Lib.hid gI
            have GJ := Lib.hid gJ
            clear ht gB gI gJ
            obtain ⟨XS, hXS⟩ : ∃ q, q = (startsV (Tt.code zn.data.toList) zv sh ev).1 := ⟨_, rfl⟩
            obtain ⟨ER, hER⟩ : ∃ q, q = (startsV (Tt.code zn.data.toList) zv sh ev).2 := ⟨_, rfl⟩
            have HXS := Lib.hid hXS
            have HER := Lib.hid hER
            clear hXS hER
            have HC55 : Hid (∀ W, Below wr.heap.size wr W → Calls Tryz.prog 55 #[.agg #[.string ev.uid, .int .i64 ev.seq, .bool ev.canc, .int .i64 ev.days.first, .int .i64 ev.days.last, .int .i64 ev.days.every, .int .i64 ev.days.wd, .slice px ev.days.ex.length kx, .slice py ev.days.xt.length ky, .int .i64 ev.start, .int .i64 ev.mins, .string ev.summ, .string ev.loc], .agg #[.string zn, .int .i64 zv, .slice pz sh.length cz]] W fun x w' => ∃ u, x = .returned (.tuple #[u, .int .i64 ER]) ∧ w'.ownsRow W.heap.size 3 1 u XS.length (XS.map (Value.int .i64)) ∧ Below W.heap.size W w') := Lib.hid (fun W hW => by
              rw [HXS.out, HER.out]
              obtain ⟨a1, q1, e1, s1⟩ := HSZ.out.shs
              cases e1
              exact starts55 zn zv sh pz cz ev W.heap.size W px py kx ky (Nat.le_refl _) ((GI.out.below hW).mono hW.size) ((GJ.out.below hW).mono hW.size) GB.out GB.out.uid ((s1.below hW).mono hW.size) (by omega))
            refine wp_region_tail 10 (by kernel_rfl) (fun listed a x => ∃ (l0 l1 l2 l3 l4 l5 l6 l7 l8 l9 : Bool) (t10 t51 t52 t53 t54 t55 t56 t57 t58 t59 : Value), listed = #[l0, l1, l2, l3, l4, l5, l6, l7, l8, l9, false] ∧ a = ⟨(.agg #[.string raw.uid, .int .i64 raw.seq, .bool raw.canc, .int .i64 raw.days.first, .int .i64 raw.days.last, .int .i64 raw.days.every, .int .i64 raw.days.wd, .slice p raw.days.ex.length c, .slice p2 raw.days.xt.length c2, .int .i64 raw.start, .int .i64 raw.mins, .string raw.summ, .string raw.loc] :: .slice ao len cap :: .pointer (some ⟨w.heap.size, 0, none⟩) :: undef :: u4 :: .pointer (some ⟨b, 0, none⟩) :: .pointer (some ⟨Z, 0, none⟩) :: .pointer (some ⟨F, 0, none⟩) :: .slice (some ⟨ga, 0, none⟩) N ca :: .int .i64 k :: t10 :: u11 :: u12 :: u13 :: u14 :: u15 :: u16 :: u17 :: u18 :: u19 :: u20 :: u21 :: u22 :: u23 :: u24 :: u25 :: u26 :: u27 :: u28 :: u29 :: u30 :: u31 :: u32 :: u33 :: .pointer (some ⟨b, 0, none⟩) :: .agg #[.string fn, .int .i64 fv, .slice pu ts.length cu] :: .agg #[.string raw.uid, .int .i64 raw.seq, .bool raw.canc, .int .i64 raw.days.first, .int .i64 raw.days.last, .int .i64 raw.days.every, .int .i64 raw.days.wd, .slice p raw.days.ex.length c, .slice p2 raw.days.xt.length c2, .int .i64 raw.start, .int .i64 raw.mins, .string raw.summ, .string raw.loc] :: .slice (some ⟨wf.heap.size, 0, none⟩) 1 1 :: .pointer (some ⟨F, 2, none⟩) :: .slice pu ts.length cu :: .slice (some ⟨ga, 0, none⟩) N ca :: .int .i64 k :: .slice (some ⟨ga, 0, none⟩) N ca :: .int .i64 N :: .bool true :: .bool true :: .int .i64 k :: .bool true :: .bool true :: u49 :: u50 :: t51 :: t52 :: t53 :: t54 :: t55 :: t56 :: t57 :: t58 :: t59 :: u60 :: u61 :: u62 :: u63 :: u64 :: u65 :: u66 :: u67 :: u68 :: u69 :: u70 :: u71 :: u72 :: u73 :: u74 :: u75 :: u76 :: u77 :: u78 :: u79 :: u80 :: u81 :: u82 :: u83 :: u84 :: u85 :: []).toArray, []⟩ ∧ Hid (l0 = true → t52 = .slice (some ⟨ga, 0, none⟩) N ca) ∧ Hid (l1 = true → t53 = .int .i64 k) ∧ Hid (l2 = true → t54 = .pointer (some ⟨ga, k * 13, none⟩)) ∧ Hid (l3 = true → t55 = .agg #[.string ev.uid, .int .i64 ev.seq, .bool ev.canc, .int .i64 ev.days.first, .int .i64 ev.days.last, .int .i64 ev.days.every, .int .i64 ev.days.wd, .slice px ev.days.ex.length kx, .slice py ev.days.xt.length ky, .int .i64 ev.start, .int .i64 ev.mins, .string ev.summ, .string ev.loc]) ∧ Hid (l4 = true → t56 = .agg #[.string zn, .int .i64 zv, .slice pz sh.length cz]) ∧ Hid (l5 = true → l6 = false → ∃ (pq : Option Addr) (cq : Nat), t57 = .tuple #[.slice pq XS.length cq, .int .i64 ER] ∧ RowI wr.heap.size x (.slice pq XS.length cq) XS) ∧ Hid (l6 = true → ∃ (pq : Option Addr) (cq : Nat), t51 = .tuple #[.slice pq XS.length cq, .int .i64 ER] ∧ RowI wr.heap.size x (.slice pq XS.length cq) XS) ∧ Hid (l7 = true → l9 = false → ∃ (pq : Option Addr) (cq : Nat), t58 = .slice pq XS.length cq ∧ RowI wr.heap.size x (.slice pq XS.length cq) XS) ∧ Hid (l8 = true → t59 = .int .i64 ER) ∧ Hid (l9 = true → ∃ (pq : Option Addr) (cq : Nat), t10 = .slice pq XS.length cq ∧ RowI wr.heap.size x (.slice pq XS.length cq) XS) ∧ Hid (Grow wr x)) (by decide) (by kernel_rfl) (by kernel_rfl) ?_ ?_ ?_ ?_
            · exact ⟨false, false, false, false, false, false, false, false, false, false, _, _, _, _, _, _, _, _, _, _, rfl, rfl, Lib.hid (fun h => by cases h), Lib.hid (fun h => by cases h), Lib.hid (fun h => by cases h), Lib.hid (fun h => by cases h), Lib.hid (fun h => by cases h), Lib.hid (fun h => by cases h), Lib.hid (fun h => by cases h), Lib.hid (fun h => by cases h), Lib.hid (fun h => by cases h), Lib.hid (fun h => by cases h), Lib.hid (Grow.start wr)⟩
            · intro listed a x hj
              obtain ⟨l0, hj⟩ := hj
              obtain ⟨l1, hj⟩ := hj
              obtain ⟨l2, hj⟩ := hj
              obtain ⟨l3, hj⟩ := hj
              obtain ⟨l4, hj⟩ := hj
              obtain ⟨l5, hj⟩ := hj
              obtain ⟨l6, hj⟩ := hj
              obtain ⟨l7, hj⟩ := hj
              obtain ⟨l8, hj⟩ := hj
              obtain ⟨l9, hj⟩ := hj
              obtain ⟨t10, hj⟩ := hj
              obtain ⟨t51, hj⟩ := hj
              obtain ⟨t52, hj⟩ := hj
              obtain ⟨t53, hj⟩ := hj
              obtain ⟨t54, hj⟩ := hj
              obtain ⟨t55, hj⟩ := hj
              obtain ⟨t56, hj⟩ := hj
              obtain ⟨t57, hj⟩ := hj
              obtain ⟨t58, hj⟩ := hj
              obtain ⟨t59, hj⟩ := hj
              obtain ⟨h1, -⟩ := hj
              subst h1
              exact ⟨rfl, fun k h1 h2 => by (have h2 : k < 11 := h2); obtain rfl : k = 10 := (by omega); rfl⟩
            · intro listed a x i hj hlt hu haf
              obtain ⟨l0, hj⟩ := hj
              obtain ⟨l1, hj⟩ := hj
              obtain ⟨l2, hj⟩ := hj
              obtain ⟨l3, hj⟩ := hj
              obtain ⟨l4, hj⟩ := hj
              obtain ⟨l5, hj⟩ := hj
              obtain ⟨l6, hj⟩ := hj
              obtain ⟨l7, hj⟩ := hj
              obtain ⟨l8, hj⟩ := hj
              obtain ⟨l9, hj⟩ := hj
              obtain ⟨t10, hj⟩ := hj
              obtain ⟨t51, hj⟩ := hj
              obtain ⟨t52, hj⟩ := hj
              obtain ⟨t53, hj⟩ := hj
              obtain ⟨t54, hj⟩ := hj
              obtain ⟨t55, hj⟩ := hj
              obtain ⟨t56, hj⟩ := hj
              obtain ⟨t57, hj⟩ := hj
              obtain ⟨t58, hj⟩ := hj
              obtain ⟨t59, hj⟩ := hj
              obtain ⟨hl_, hj⟩ := hj
              obtain ⟨ha_, hj⟩ := hj
              obtain ⟨H0, hj⟩ := hj
              obtain ⟨H1, hj⟩ := hj
              obtain ⟨H2, hj⟩ := hj
              obtain ⟨H3, hj⟩ := hj
              obtain ⟨H4, hj⟩ := hj
              obtain ⟨H5, hj⟩ := hj
              obtain ⟨H6, hj⟩ := hj
              obtain ⟨H7, hj⟩ := hj
              obtain ⟨H8, hj⟩ := hj
              obtain ⟨H9, hj⟩ := hj
              have HS := hj
              clear hj
              subst hl_
              subst ha_
              rcases (show ∀ i : Nat, i < 10 → (i = 0 ∨ i = 1 ∨ i = 2 ∨ i = 3 ∨ i = 4 ∨ i = 5 ∨ i = 6 ∨ i = 7 ∨ i = 8 ∨ i = 9) by decide) i hlt with rfl | rfl | rfl | rfl | rfl | rfl | rfl | rfl | rfl | rfl
              · have haf := haf _ rfl
                clear haf
                have hu : l0 = false := hu
                refine wpOp_of_list_any rfl fun QQ hQ => ?_
                have hQQ := Lib.hid hQ
                clear hQ
                simp only [List.getElem_toArray, List.getElem_cons_zero]
                go_wp2_with fail
                exact hQQ.out _ _ ⟨true, l1, l2, l3, l4, l5, l6, l7, l8, l9, _, _, _, _, _, _, _, _, _, _, rfl, rfl, Lib.hid (fun _ => rfl), H1, H2, H3, H4, H5, H6, H7, H8, H9, HS⟩
              · have haf := haf _ rfl
                clear haf
                have hu : l1 = false := hu
                refine wpOp_of_list_any rfl fun QQ hQ => ?_
                have hQQ := Lib.hid hQ
                clear hQ
                simp only [List.getElem_toArray, List.getElem_cons_zero, List.getElem_cons_succ]
                go_wp2_with fail
                exact hQQ.out _ _ ⟨l0, true, l2, l3, l4, l5, l6, l7, l8, l9, _, _, _, _, _, _, _, _, _, _, rfl, rfl, H0, Lib.hid (fun _ => rfl), H2, H3, H4, H5, H6, H7, H8, H9, HS⟩
              · have haf := haf _ rfl
                have q0 : l0 = true := haf ⟨0, Go.Ground.data⟩ (by simp) rfl
                have q1 : l1 = true := haf ⟨1, Go.Ground.data⟩ (by simp) rfl
                clear haf
                have hu : l2 = false := hu
                have e0 := (H0.out q0)
                subst e0
                clear H0
                have e1 := (H1.out q1)
                subst e1
                clear H1
                refine wpOp_of_list_any rfl fun QQ hQ => ?_
                have hQQ := Lib.hid hQ
                clear hQ
                simp only [List.getElem_toArray, List.getElem_cons_zero, List.getElem_cons_succ]
                go_wp2_with fail
                exact hQQ.out _ _ ⟨l0, l1, true, l3, l4, l5, l6, l7, l8, l9, _, _, _, _, _, _, _, _, _, _, rfl, rfl, Lib.hid (fun _ => rfl), Lib.hid (fun _ => rfl), Lib.hid (fun _ => rfl), H3, H4, H5, H6, H7, H8, H9, HS⟩
              · have haf := haf _ rfl
                have q2 : l2 = true := haf ⟨2, Go.Ground.data⟩ (by simp) rfl
                clear haf
                have hu : l3 = false := hu
                have e2 := (H2.out q2)
                subst e2
                clear H2
                obtain ⟨y0, y1, y2, y3, y4, y5, y6, y7, y8, y9, y10, y11, y12⟩ := row_evc (row_below' HA.out HS.out.below) k _ HT.out
                refine wpOp_of_list_any rfl fun QQ hQ => ?_
                have hQQ := Lib.hid hQ
                clear hQ
                simp only [List.getElem_toArray, List.getElem_cons_zero, List.getElem_cons_succ]
                go_wp2_with fail
                exact hQQ.out _ _ ⟨l0, l1, l2, true, l4, l5, l6, l7, l8, l9, _, _, _, _, _, _, _, _, _, _, rfl, rfl, H0, H1, Lib.hid (fun _ => rfl), Lib.hid (fun _ => rfl), H4, H5, H6, H7, H8, H9, HS⟩
              · have haf := haf _ rfl
                clear haf
                have hu : l4 = false := hu
                obtain ⟨z0, z1, z2⟩ := And.intro ((HS.out.blk HZ.out).cell 0) (And.intro ((HS.out.blk HZ.out).cell 1) ((HS.out.blk HZ.out).cell 2))
                simp only [List.getElem?_toArray, List.getElem?_cons_zero, List.getElem?_cons_succ] at z0 z1 z2
                refine wpOp_of_list_any rfl fun QQ hQ => ?_
                have hQQ := Lib.hid hQ
                clear hQ
                simp only [List.getElem_toArray, List.getElem_cons_zero, List.getElem_cons_succ]
                go_wp2_with fail
                exact hQQ.out _ _ ⟨l0, l1, l2, l3, true, l5, l6, l7, l8, l9, _, _, _, _, _, _, _, _, _, _, rfl, rfl, H0, H1, H2, H3, Lib.hid (fun _ => rfl), H5, H6, H7, H8, H9, HS⟩
              · have haf := haf _ rfl
                have q3 : l3 = true := haf ⟨3, Go.Ground.data⟩ (by simp) rfl
                have q4 : l4 = true := haf ⟨4, Go.Ground.data⟩ (by simp) rfl
                clear haf
                have hu : l5 = false := hu
                have e3 := (H3.out q3)
                subst e3
                clear H3
                have e4 := (H4.out q4)
                subst e4
                clear H4
                refine wpOp_of_list_any rfl fun QQ hQ => ?_
                have hQQ := Lib.hid hQ
                clear hQ
                simp only [List.getElem_toArray, List.getElem_cons_zero, List.getElem_cons_succ]
                go_wp2_with fail
                refine (HC55.out x HS.out.below).mono ?_
                rintro e x1 ⟨u, rfl, hX, hb1⟩
                have hk := Kept.of_below (B := wr.heap.size) hb1
                have HS1 := Lib.hid (HS.out.then hb1)
                have hX : RowI wr.heap.size x1 u XS := ownsRow_mono hX HS.out.below.size
                obtain ⟨pq, cq, hv⟩ := hX.slice
                subst hv
                have HX1 := Lib.hid hX
                clear hX hb1
                go_wp2_with fail
                exact hQQ.out _ _ ⟨l0, l1, l2, l3, l4, true, l6, l7, l8, l9, _, _, _, _, _, _, _, _, _, _, rfl, rfl, H0, H1, H2, Lib.hid (fun _ => rfl), Lib.hid (fun _ => rfl), Lib.hid (fun _ _ => ⟨_, _, rfl, HX1.out⟩), Lib.hid (fun h => (by obtain ⟨pq, cq, e, c0⟩ := H6.out h; exact ⟨pq, cq, e, (row_kept c0 hk)⟩)), Lib.hid (fun h h2 => (by obtain ⟨pq, cq, e, c0⟩ := H7.out h h2; exact ⟨pq, cq, e, (row_kept c0 hk)⟩)), H8, Lib.hid (fun h => (by obtain ⟨pq, cq, e, c0⟩ := H9.out h; exact ⟨pq, cq, e, (row_kept c0 hk)⟩)), HS1⟩
              · have haf := haf _ rfl
                have q5 : l5 = true := haf ⟨5, Go.Ground.data⟩ (by simp) rfl
                clear haf
                have hu : l6 = false := hu
                obtain ⟨pq5, cq5, e5, c5_0⟩ := (H5.out q5 hu)
                subst e5
                clear H5
                refine wpOp_of_list_any rfl fun QQ hQ => ?_
                have hQQ := Lib.hid hQ
                clear hQ
                simp only [List.getElem_toArray, List.getElem_cons_zero, List.getElem_cons_succ]
                go_wp2_with fail
                exact hQQ.out _ _ ⟨l0, l1, l2, l3, l4, l5, true, l7, l8, l9, _, _, _, _, _, _, _, _, _, _, rfl, rfl, H0, H1, H2, H3, H4, Lib.hid (fun _ h => by cases h), Lib.hid (fun _ => ⟨_, _, rfl, c5_0⟩), H7, H8, H9, HS⟩
              · have haf := haf _ rfl
                have q6 : l6 = true := haf ⟨6, Go.Ground.data⟩ (by simp) rfl
                clear haf
                have hu : l7 = false := hu
                obtain ⟨pq6, cq6, e6, c6_0⟩ := (H6.out q6)
                subst e6
                clear H6
                refine wpOp_of_list_any rfl fun QQ hQ => ?_
                have hQQ := Lib.hid hQ
                clear hQ
                simp only [List.getElem_toArray, List.getElem_cons_zero, List.getElem_cons_succ]
                go_wp2_with fail
                exact hQQ.out _ _ ⟨l0, l1, l2, l3, l4, l5, l6, true, l8, l9, _, _, _, _, _, _, _, _, _, _, rfl, rfl, H0, H1, H2, H3, H4, H5, Lib.hid (fun _ => ⟨pq6, cq6, rfl, c6_0⟩), Lib.hid (fun _ _ => ⟨_, _, rfl, c6_0⟩), H8, H9, HS⟩
              · have haf := haf _ rfl
                have q6 : l6 = true := haf ⟨6, Go.Ground.data⟩ (by simp) rfl
                clear haf
                have hu : l8 = false := hu
                obtain ⟨pq6, cq6, e6, c6_0⟩ := (H6.out q6)
                subst e6
                clear H6
                refine wpOp_of_list_any rfl fun QQ hQ => ?_
                have hQQ := Lib.hid hQ
                clear hQ
                simp only [List.getElem_toArray, List.getElem_cons_zero, List.getElem_cons_succ]
                go_wp2_with fail
                exact hQQ.out _ _ ⟨l0, l1, l2, l3, l4, l5, l6, l7, true, l9, _, _, _, _, _, _, _, _, _, _, rfl, rfl, H0, H1, H2, H3, H4, H5, Lib.hid (fun _ => ⟨pq6, cq6, rfl, c6_0⟩), H7, Lib.hid (fun _ => rfl), H9, HS⟩
              · have haf := haf _ rfl
                have q7 : l7 = true := haf ⟨7, Go.Ground.data⟩ (by simp) rfl
                clear haf
                have hu : l9 = false := hu
                obtain ⟨pq7, cq7, e7, c7_0⟩ := (H7.out q7 hu)
                subst e7
                clear H7
                refine wpOp_of_list_any rfl fun QQ hQ => ?_
                have hQQ := Lib.hid hQ
                clear hQ
                simp only [List.getElem_toArray, List.getElem_cons_zero, List.getElem_cons_succ]
                go_wp2_with fail
                exact hQQ.out _ _ ⟨l0, l1, l2, l3, l4, l5, l6, l7, l8, true, _, _, _, _, _, _, _, _, _, _, rfl, rfl, H0, H1, H2, H3, H4, H5, H6, Lib.hid (fun _ h => by cases h), H8, Lib.hid (fun _ => ⟨_, _, rfl, c7_0⟩), HS⟩
            · intro listed a x hj hall
              obtain ⟨l0, hj⟩ := hj
              obtain ⟨l1, hj⟩ := hj
              obtain ⟨l2, hj⟩ := hj
              obtain ⟨l3, hj⟩ := hj
              obtain ⟨l4, hj⟩ := hj
              obtain ⟨l5, hj⟩ := hj
              obtain ⟨l6, hj⟩ := hj
              obtain ⟨l7, hj⟩ := hj
              obtain ⟨l8, hj⟩ := hj
              obtain ⟨l9, hj⟩ := hj
              obtain ⟨t10, hj⟩ := hj
              obtain ⟨t51, hj⟩ := hj
              obtain ⟨t52, hj⟩ := hj
              obtain ⟨t53, hj⟩ := hj
              obtain ⟨t54, hj⟩ := hj
              obtain ⟨t55, hj⟩ := hj
              obtain ⟨t56, hj⟩ := hj
              obtain ⟨t57, hj⟩ := hj
              obtain ⟨t58, hj⟩ := hj
              obtain ⟨t59, hj⟩ := hj
              obtain ⟨hl_, hj⟩ := hj
              obtain ⟨ha_, hj⟩ := hj
              obtain ⟨H0, hj⟩ := hj
              obtain ⟨H1, hj⟩ := hj
              obtain ⟨H2, hj⟩ := hj
              obtain ⟨H3, hj⟩ := hj
              obtain ⟨H4, hj⟩ := hj
              obtain ⟨H5, hj⟩ := hj
              obtain ⟨H6, hj⟩ := hj
              obtain ⟨H7, hj⟩ := hj
              obtain ⟨H8, hj⟩ := hj
              obtain ⟨H9, hj⟩ := hj
              have HS := hj
              clear hj
              subst hl_
              subst ha_
              have q8 : l8 = true := hall 8 (by omega)
              have q9 : l9 = true := hall 9 (by omega)
              clear hall
              have e8 := (H8.out q8)
              subst e8
              obtain ⟨pq9, cq9, e9, c9_0⟩ := (H9.out q9)
              subst e9
              refine tail_any (fun a x => ∃ (t10 t11 t51 t52 t53 t54 t55 t56 t57 t58 t59 : Value), a = ⟨(.agg #[.string raw.uid, .int .i64 raw.seq, .bool raw.canc, .int .i64 raw.days.first, .int .i64 raw.days.last, .int .i64 raw.days.every, .int .i64 raw.days.wd, .slice p raw.days.ex.length c, .slice p2 raw.days.xt.length c2, .int .i64 raw.start, .int .i64 raw.mins, .string raw.summ, .string raw.loc] :: .slice ao len cap :: .pointer (some ⟨w.heap.size, 0, none⟩) :: undef :: u4 :: .pointer (some ⟨b, 0, none⟩) :: .pointer (some ⟨Z, 0, none⟩) :: .pointer (some ⟨F, 0, none⟩) :: .slice (some ⟨ga, 0, none⟩) N ca :: .int .i64 k :: t10 :: t11 :: u12 :: u13 :: u14 :: u15 :: u16 :: u17 :: u18 :: u19 :: u20 :: u21 :: u22 :: u23 :: u24 :: u25 :: u26 :: u27 :: u28 :: u29 :: u30 :: u31 :: u32 :: u33 :: .pointer (some ⟨b, 0, none⟩) :: .agg #[.string fn, .int .i64 fv, .slice pu ts.length cu] :: .agg #[.string raw.uid, .int .i64 raw.seq, .bool raw.canc, .int .i64 raw.days.first, .int .i64 raw.days.last, .int .i64 raw.days.every, .int .i64 raw.days.wd, .slice p raw.days.ex.length c, .slice p2 raw.days.xt.length c2, .int .i64 raw.start, .int .i64 raw.mins, .string raw.summ, .string raw.loc] :: .slice (some ⟨wf.heap.size, 0, none⟩) 1 1 :: .pointer (some ⟨F, 2, none⟩) :: .slice pu ts.length cu :: .slice (some ⟨ga, 0, none⟩) N ca :: .int .i64 k :: .slice (some ⟨ga, 0, none⟩) N ca :: .int .i64 N :: .bool true :: .bool true :: .int .i64 k :: .bool true :: .bool true :: u49 :: u50 :: t51 :: t52 :: t53 :: t54 :: t55 :: t56 :: t57 :: t58 :: t59 :: u60 :: u61 :: u62 :: u63 :: u64 :: u65 :: u66 :: u67 :: u68 :: u69 :: u70 :: u71 :: u72 :: u73 :: u74 :: u75 :: u76 :: u77 :: u78 :: u79 :: u80 :: u81 :: u82 :: u83 :: u84 :: u85 :: []).toArray, []⟩ ∧ ∃ (p5 : Option Addr) (c5 : Nat), t10 = .slice p5 XS.length c5 ∧ t11 = .int .i64 ER ∧ RowI wr.heap.size x (.slice p5 XS.length c5) XS ∧ Grow wr x) ?_ fun QQ hQ => ?_
              · intro a x hpost
                obtain ⟨t10, hpost⟩ := hpost
                obtain ⟨t11, hpost⟩ := hpost
                obtain ⟨t51, hpost⟩ := hpost
                obtain ⟨t52, hpost⟩ := hpost
                obtain ⟨t53, hpost⟩ := hpost
                obtain ⟨t54, hpost⟩ := hpost
                obtain ⟨t55, hpost⟩ := hpost
                obtain ⟨t56, hpost⟩ := hpost
                obtain ⟨t57, hpost⟩ := hpost
                obtain ⟨t58, hpost⟩ := hpost
                obtain ⟨t59, hpost⟩ := hpost
                obtain ⟨ha_, hpost⟩ := hpost
                subst ha_
                obtain ⟨p5, c5, rfl, rfl, hR5, hS_⟩ := hpost
                have HZ1 := Lib.hid (hS_.blk HZ.out)
                have HSZ1 := Lib.hid (show RowZ w3.heap.size x (.slice pz sh.length cz) sh from row_below' HSZ.out hS_.below)
                have HA1 := Lib.hid (row_below' HA.out hS_.below)
                have HR1 := Lib.hid (fun t ht => (HR.out t ht).below hS_.below)
                have HL1 := Lib.hid (HL.out.trans (hS_.below.mono HL.out.size))
                have HI5 := Lib.hid hR5
                obtain ⟨wy, hwy⟩ : ∃ wy, wy = x := ⟨_, rfl⟩
                have HC56 : Hid (∀ W, Below wy.heap.size wy W → Calls Tryz.prog 56 #[.agg #[.string ev.uid, .int .i64 ev.seq, .bool ev.canc, .int .i64 ev.days.first, .int .i64 ev.days.last, .int .i64 ev.days.every, .int .i64 ev.days.wd, .slice px ev.days.ex.length kx, .slice py ev.days.xt.length ky, .int .i64 ev.start, .int .i64 ev.mins, .string ev.summ, .string ev.loc], .agg #[.string zn, .int .i64 zv, .slice pz sh.length cz]] W fun x w' => ∃ u, x = .returned (.tuple #[u, .int .i64 ER]) ∧ w'.ownsRow W.heap.size 3 1 u XS.length (XS.map (Value.int .i64)) ∧ Below W.heap.size W w') := Lib.hid (fun W hW => by
                  rw [HXS.out, HER.out]
                  rw [hwy] at hW
                  obtain ⟨a1, q1, e1, s1⟩ := HSZ1.out.shs
                  cases e1
                  exact starts56 zn zv sh pz cz ev W.heap.size W px py kx ky (Nat.le_refl _) ((GI.out.below (hS_.below.trans (hW.mono hS_.below.size))).mono (Nat.le_trans hS_.below.size hW.size)) ((GJ.out.below (hS_.below.trans (hW.mono hS_.below.size))).mono (Nat.le_trans hS_.below.size hW.size)) GB.out GB.out.uid ((s1.below hW).mono hW.size) (by omega))
                clear hS_ hR5 HC55 HZ HSZ HA HR HL
                rw [← hwy] at HZ1 HSZ1 HA1 HR1 HL1 HI5 ⊢
                clear hwy
                go_wp2_with fail
                refine wp_region_tail 10 (by kernel_rfl) (fun listed a x => ∃ (l0 l1 l2 l3 l4 l5 l6 l7 l8 l9 : Bool) (t12 t60 t61 t62 t63 t64 t65 t66 t67 t68 : Value), listed = #[l0, l1, l2, l3, l4, l5, l6, l7, l8, l9, false] ∧ a = ⟨(.agg #[.string raw.uid, .int .i64 raw.seq, .bool raw.canc, .int .i64 raw.days.first, .int .i64 raw.days.last, .int .i64 raw.days.every, .int .i64 raw.days.wd, .slice p raw.days.ex.length c, .slice p2 raw.days.xt.length c2, .int .i64 raw.start, .int .i64 raw.mins, .string raw.summ, .string raw.loc] :: .slice ao len cap :: .pointer (some ⟨w.heap.size, 0, none⟩) :: undef :: u4 :: .pointer (some ⟨b, 0, none⟩) :: .pointer (some ⟨Z, 0, none⟩) :: .pointer (some ⟨F, 0, none⟩) :: .slice (some ⟨ga, 0, none⟩) N ca :: .int .i64 k :: .slice p5 XS.length c5 :: .int .i64 ER :: t12 :: u13 :: u14 :: u15 :: u16 :: u17 :: u18 :: u19 :: u20 :: u21 :: u22 :: u23 :: u24 :: u25 :: u26 :: u27 :: u28 :: u29 :: u30 :: u31 :: u32 :: u33 :: .pointer (some ⟨b, 0, none⟩) :: .agg #[.string fn, .int .i64 fv, .slice pu ts.length cu] :: .agg #[.string raw.uid, .int .i64 raw.seq, .bool raw.canc, .int .i64 raw.days.first, .int .i64 raw.days.last, .int .i64 raw.days.every, .int .i64 raw.days.wd, .slice p raw.days.ex.length c, .slice p2 raw.days.xt.length c2, .int .i64 raw.start, .int .i64 raw.mins, .string raw.summ, .string raw.loc] :: .slice (some ⟨wf.heap.size, 0, none⟩) 1 1 :: .pointer (some ⟨F, 2, none⟩) :: .slice pu ts.length cu :: .slice (some ⟨ga, 0, none⟩) N ca :: .int .i64 k :: .slice (some ⟨ga, 0, none⟩) N ca :: .int .i64 N :: .bool true :: .bool true :: .int .i64 k :: .bool true :: .bool true :: u49 :: u50 :: t51 :: t52 :: t53 :: t54 :: t55 :: t56 :: t57 :: t58 :: t59 :: t60 :: t61 :: t62 :: t63 :: t64 :: t65 :: t66 :: t67 :: t68 :: u69 :: u70 :: u71 :: u72 :: u73 :: u74 :: u75 :: u76 :: u77 :: u78 :: u79 :: u80 :: u81 :: u82 :: u83 :: u84 :: u85 :: []).toArray, []⟩ ∧ Hid (l0 = true → t61 = .slice (some ⟨ga, 0, none⟩) N ca) ∧ Hid (l1 = true → t62 = .int .i64 k) ∧ Hid (l2 = true → t63 = .pointer (some ⟨ga, k * 13, none⟩)) ∧ Hid (l3 = true → t64 = .agg #[.string ev.uid, .int .i64 ev.seq, .bool ev.canc, .int .i64 ev.days.first, .int .i64 ev.days.last, .int .i64 ev.days.every, .int .i64 ev.days.wd, .slice px ev.days.ex.length kx, .slice py ev.days.xt.length ky, .int .i64 ev.start, .int .i64 ev.mins, .string ev.summ, .string ev.loc]) ∧ Hid (l4 = true → t65 = .agg #[.string zn, .int .i64 zv, .slice pz sh.length cz]) ∧ Hid (l5 = true → l6 = false → ∃ (pq : Option Addr) (cq : Nat), t66 = .tuple #[.slice pq XS.length cq, .int .i64 ER] ∧ RowI wy.heap.size x (.slice pq XS.length cq) XS) ∧ Hid (l6 = true → ∃ (pq : Option Addr) (cq : Nat), t60 = .tuple #[.slice pq XS.length cq, .int .i64 ER] ∧ RowI wy.heap.size x (.slice pq XS.length cq) XS) ∧ Hid (l7 = true → l9 = false → ∃ (pq : Option Addr) (cq : Nat), t67 = .slice pq XS.length cq ∧ RowI wy.heap.size x (.slice pq XS.length cq) XS) ∧ Hid (l8 = true → t68 = .int .i64 ER) ∧ Hid (l9 = true → ∃ (pq : Option Addr) (cq : Nat), t12 = .slice pq XS.length cq ∧ RowI wy.heap.size x (.slice pq XS.length cq) XS) ∧ Hid (Grow wy x)) (by decide) (by kernel_rfl) (by kernel_rfl) ?_ ?_ ?_ ?_
                · exact ⟨false, false, false, false, false, false, false, false, false, false, _, _, _, _, _, _, _, _, _, _, rfl, rfl, Lib.hid (fun h => by cases h), Lib.hid (fun h => by cases h), Lib.hid (fun h => by cases h), Lib.hid (fun h => by cases h), Lib.hid (fun h => by cases h), Lib.hid (fun h => by cases h), Lib.hid (fun h => by cases h), Lib.hid (fun h => by cases h), Lib.hid (fun h => by cases h), Lib.hid (fun h => by cases h), Lib.hid (Grow.start wy)⟩
                · intro listed a x hj
                  obtain ⟨l0, hj⟩ := hj
                  obtain ⟨l1, hj⟩ := hj
                  obtain ⟨l2, hj⟩ := hj
                  obtain ⟨l3, hj⟩ := hj
                  obtain ⟨l4, hj⟩ := hj
                  obtain ⟨l5, hj⟩ := hj
                  obtain ⟨l6, hj⟩ := hj
                  obtain ⟨l7, hj⟩ := hj
                  obtain ⟨l8, hj⟩ := hj
                  obtain ⟨l9, hj⟩ := hj
                  obtain ⟨t12, hj⟩ := hj
                  obtain ⟨t60, hj⟩ := hj
                  obtain ⟨t61, hj⟩ := hj
                  obtain ⟨t62, hj⟩ := hj
                  obtain ⟨t63, hj⟩ := hj
                  obtain ⟨t64, hj⟩ := hj
                  obtain ⟨t65, hj⟩ := hj
                  obtain ⟨t66, hj⟩ := hj
                  obtain ⟨t67, hj⟩ := hj
                  obtain ⟨t68, hj⟩ := hj
                  obtain ⟨h1, -⟩ := hj
                  subst h1
                  exact ⟨rfl, fun k h1 h2 => by (have h2 : k < 11 := h2); obtain rfl : k = 10 := (by omega); rfl⟩
                · intro listed a x i hj hlt hu haf
                  obtain ⟨l0, hj⟩ := hj
                  obtain ⟨l1, hj⟩ := hj
                  obtain ⟨l2, hj⟩ := hj
                  obtain ⟨l3, hj⟩ := hj
                  obtain ⟨l4, hj⟩ := hj
                  obtain ⟨l5, hj⟩ := hj
                  obtain ⟨l6, hj⟩ := hj
                  obtain ⟨l7, hj⟩ := hj
                  obtain ⟨l8, hj⟩ := hj
                  obtain ⟨l9, hj⟩ := hj
                  obtain ⟨t12, hj⟩ := hj
                  obtain ⟨t60, hj⟩ := hj
                  obtain ⟨t61, hj⟩ := hj
                  obtain ⟨t62, hj⟩ := hj
                  obtain ⟨t63, hj⟩ := hj
                  obtain ⟨t64, hj⟩ := hj
                  obtain ⟨t65, hj⟩ := hj
                  obtain ⟨t66, hj⟩ := hj
                  obtain ⟨t67, hj⟩ := hj
                  obtain ⟨t68, hj⟩ := hj
                  obtain ⟨hl_, hj⟩ := hj
                  obtain ⟨ha_, hj⟩ := hj
                  obtain ⟨H0, hj⟩ := hj
                  obtain ⟨H1, hj⟩ := hj
                  obtain ⟨H2, hj⟩ := hj
                  obtain ⟨H3, hj⟩ := hj
                  obtain ⟨H4, hj⟩ := hj
                  obtain ⟨H5, hj⟩ := hj
                  obtain ⟨H6, hj⟩ := hj
                  obtain ⟨H7, hj⟩ := hj
                  obtain ⟨H8, hj⟩ := hj
                  obtain ⟨H9, hj⟩ := hj
                  have HS := hj
                  clear hj
                  subst hl_
                  subst ha_
                  rcases (show ∀ i : Nat, i < 10 → (i = 0 ∨ i = 1 ∨ i = 2 ∨ i = 3 ∨ i = 4 ∨ i = 5 ∨ i = 6 ∨ i = 7 ∨ i = 8 ∨ i = 9) by decide) i hlt with rfl | rfl | rfl | rfl | rfl | rfl | rfl | rfl | rfl | rfl
                  · have haf := haf _ rfl
                    clear haf
                    have hu : l0 = false := hu
                    refine wpOp_of_list_any rfl fun QQ hQ => ?_
                    have hQQ := Lib.hid hQ
                    clear hQ
                    simp only [List.getElem_toArray, List.getElem_cons_zero]
                    go_wp2_with fail
                    exact hQQ.out _ _ ⟨true, l1, l2, l3, l4, l5, l6, l7, l8, l9, _, _, _, _, _, _, _, _, _, _, rfl, rfl, Lib.hid (fun _ => rfl), H1, H2, H3, H4, H5, H6, H7, H8, H9, HS⟩
                  · have haf := haf _ rfl
                    clear haf
                    have hu : l1 = false := hu
                    refine wpOp_of_list_any rfl fun QQ hQ => ?_
                    have hQQ := Lib.hid hQ
                    clear hQ
                    simp only [List.getElem_toArray, List.getElem_cons_zero, List.getElem_cons_succ]
                    go_wp2_with fail
                    exact hQQ.out _ _ ⟨l0, true, l2, l3, l4, l5, l6, l7, l8, l9, _, _, _, _, _, _, _, _, _, _, rfl, rfl, H0, Lib.hid (fun _ => rfl), H2, H3, H4, H5, H6, H7, H8, H9, HS⟩
                  · have haf := haf _ rfl
                    have q0 : l0 = true := haf ⟨0, Go.Ground.data⟩ (by simp) rfl
                    have q1 : l1 = true := haf ⟨1, Go.Ground.data⟩ (by simp) rfl
                    clear haf
                    have hu : l2 = false := hu
                    have e0 := (H0.out q0)
                    subst e0
                    clear H0
                    have e1 := (H1.out q1)
                    subst e1
                    clear H1
                    refine wpOp_of_list_any rfl fun QQ hQ => ?_
                    have hQQ := Lib.hid hQ
                    clear hQ
                    simp only [List.getElem_toArray, List.getElem_cons_zero, List.getElem_cons_succ]
                    go_wp2_with fail
                    exact hQQ.out _ _ ⟨l0, l1, true, l3, l4, l5, l6, l7, l8, l9, _, _, _, _, _, _, _, _, _, _, rfl, rfl, Lib.hid (fun _ => rfl), Lib.hid (fun _ => rfl), Lib.hid (fun _ => rfl), H3, H4, H5, H6, H7, H8, H9, HS⟩
                  · have haf := haf _ rfl
                    have q2 : l2 = true := haf ⟨2, Go.Ground.data⟩ (by simp) rfl
                    clear haf
                    have hu : l3 = false := hu
                    have e2 := (H2.out q2)
                    subst e2
                    clear H2
                    obtain ⟨y0, y1, y2, y3, y4, y5, y6, y7, y8, y9, y10, y11, y12⟩ := row_evc (row_below' HA1.out HS.out.below) k _ HT.out
                    refine wpOp_of_list_any rfl fun QQ hQ => ?_
                    have hQQ := Lib.hid hQ
                    clear hQ
                    simp only [List.getElem_toArray, List.getElem_cons_zero, List.getElem_cons_succ]
                    go_wp2_with fail
                    exact hQQ.out _ _ ⟨l0, l1, l2, true, l4, l5, l6, l7, l8, l9, _, _, _, _, _, _, _, _, _, _, rfl, rfl, H0, H1, Lib.hid (fun _ => rfl), Lib.hid (fun _ => rfl), H4, H5, H6, H7, H8, H9, HS⟩
                  · have haf := haf _ rfl
                    clear haf
                    have hu : l4 = false := hu
                    obtain ⟨z0, z1, z2⟩ := And.intro ((HS.out.blk HZ1.out).cell 0) (And.intro ((HS.out.blk HZ1.out).cell 1) ((HS.out.blk HZ1.out).cell 2))
                    simp only [List.getElem?_toArray, List.getElem?_cons_zero, List.getElem?_cons_succ] at z0 z1 z2
                    refine wpOp_of_list_any rfl fun QQ hQ => ?_
                    have hQQ := Lib.hid hQ
                    clear hQ
                    simp only [List.getElem_toArray, List.getElem_cons_zero, List.getElem_cons_succ]
                    go_wp2_with fail
                    exact hQQ.out _ _ ⟨l0, l1, l2, l3, true, l5, l6, l7, l8, l9, _, _, _, _, _, _, _, _, _, _, rfl, rfl, H0, H1, H2, H3, Lib.hid (fun _ => rfl), H5, H6, H7, H8, H9, HS⟩
                  · have haf := haf _ rfl
                    have q3 : l3 = true := haf ⟨3, Go.Ground.data⟩ (by simp) rfl
                    have q4 : l4 = true := haf ⟨4, Go.Ground.data⟩ (by simp) rfl
                    clear haf
                    have hu : l5 = false := hu
                    have e3 := (H3.out q3)
                    subst e3
                    clear H3
                    have e4 := (H4.out q4)
                    subst e4
                    clear H4
                    refine wpOp_of_list_any rfl fun QQ hQ => ?_
                    have hQQ := Lib.hid hQ
                    clear hQ
                    simp only [List.getElem_toArray, List.getElem_cons_zero, List.getElem_cons_succ]
                    go_wp2_with fail
                    refine (HC56.out x HS.out.below).mono ?_
                    rintro e x1 ⟨u, rfl, hX, hb1⟩
                    have hk := Kept.of_below (B := wy.heap.size) hb1
                    have HS1 := Lib.hid (HS.out.then hb1)
                    have hX : RowI wy.heap.size x1 u XS := ownsRow_mono hX HS.out.below.size
                    obtain ⟨pq, cq, hv⟩ := hX.slice
                    subst hv
                    have HX1 := Lib.hid hX
                    clear hX hb1
                    go_wp2_with fail
                    exact hQQ.out _ _ ⟨l0, l1, l2, l3, l4, true, l6, l7, l8, l9, _, _, _, _, _, _, _, _, _, _, rfl, rfl, H0, H1, H2, Lib.hid (fun _ => rfl), Lib.hid (fun _ => rfl), Lib.hid (fun _ _ => ⟨_, _, rfl, HX1.out⟩), Lib.hid (fun h => (by obtain ⟨pq, cq, e, c0⟩ := H6.out h; exact ⟨pq, cq, e, (row_kept c0 hk)⟩)), Lib.hid (fun h h2 => (by obtain ⟨pq, cq, e, c0⟩ := H7.out h h2; exact ⟨pq, cq, e, (row_kept c0 hk)⟩)), H8, Lib.hid (fun h => (by obtain ⟨pq, cq, e, c0⟩ := H9.out h; exact ⟨pq, cq, e, (row_kept c0 hk)⟩)), HS1⟩
                  · have haf := haf _ rfl
                    have q5 : l5 = true := haf ⟨5, Go.Ground.data⟩ (by simp) rfl
                    clear haf
                    have hu : l6 = false := hu
                    obtain ⟨pq5, cq5, e5, c5_0⟩ := (H5.out q5 hu)
                    subst e5
                    clear H5
                    refine wpOp_of_list_any rfl fun QQ hQ => ?_
                    have hQQ := Lib.hid hQ
                    clear hQ
                    simp only [List.getElem_toArray, List.getElem_cons_zero, List.getElem_cons_succ]
                    go_wp2_with fail
                    exact hQQ.out _ _ ⟨l0, l1, l2, l3, l4, l5, true, l7, l8, l9, _, _, _, _, _, _, _, _, _, _, rfl, rfl, H0, H1, H2, H3, H4, Lib.hid (fun _ h => by cases h), Lib.hid (fun _ => ⟨_, _, rfl, c5_0⟩), H7, H8, H9, HS⟩
                  · have haf := haf _ rfl
                    have q6 : l6 = true := haf ⟨6, Go.Ground.data⟩ (by simp) rfl
                    clear haf
                    have hu : l7 = false := hu
                    obtain ⟨pq6, cq6, e6, c6_0⟩ := (H6.out q6)
                    subst e6
                    clear H6
                    refine wpOp_of_list_any rfl fun QQ hQ => ?_
                    have hQQ := Lib.hid hQ
                    clear hQ
                    simp only [List.getElem_toArray, List.getElem_cons_zero, List.getElem_cons_succ]
                    go_wp2_with fail
                    exact hQQ.out _ _ ⟨l0, l1, l2, l3, l4, l5, l6, true, l8, l9, _, _, _, _, _, _, _, _, _, _, rfl, rfl, H0, H1, H2, H3, H4, H5, Lib.hid (fun _ => ⟨pq6, cq6, rfl, c6_0⟩), Lib.hid (fun _ _ => ⟨_, _, rfl, c6_0⟩), H8, H9, HS⟩
                  · have haf := haf _ rfl
                    have q6 : l6 = true := haf ⟨6, Go.Ground.data⟩ (by simp) rfl
                    clear haf
                    have hu : l8 = false := hu
                    obtain ⟨pq6, cq6, e6, c6_0⟩ := (H6.out q6)
                    subst e6
                    clear H6
                    refine wpOp_of_list_any rfl fun QQ hQ => ?_
                    have hQQ := Lib.hid hQ
                    clear hQ
                    simp only [List.getElem_toArray, List.getElem_cons_zero, List.getElem_cons_succ]
                    go_wp2_with fail
                    exact hQQ.out _ _ ⟨l0, l1, l2, l3, l4, l5, l6, l7, true, l9, _, _, _, _, _, _, _, _, _, _, rfl, rfl, H0, H1, H2, H3, H4, H5, Lib.hid (fun _ => ⟨pq6, cq6, rfl, c6_0⟩), H7, Lib.hid (fun _ => rfl), H9, HS⟩
                  · have haf := haf _ rfl
                    have q7 : l7 = true := haf ⟨7, Go.Ground.data⟩ (by simp) rfl
                    clear haf
                    have hu : l9 = false := hu
                    obtain ⟨pq7, cq7, e7, c7_0⟩ := (H7.out q7 hu)
                    subst e7
                    clear H7
                    refine wpOp_of_list_any rfl fun QQ hQ => ?_
                    have hQQ := Lib.hid hQ
                    clear hQ
                    simp only [List.getElem_toArray, List.getElem_cons_zero, List.getElem_cons_succ]
                    go_wp2_with fail
                    exact hQQ.out _ _ ⟨l0, l1, l2, l3, l4, l5, l6, l7, l8, true, _, _, _, _, _, _, _, _, _, _, rfl, rfl, H0, H1, H2, H3, H4, H5, H6, Lib.hid (fun _ h => by cases h), H8, Lib.hid (fun _ => ⟨_, _, rfl, c7_0⟩), HS⟩
                · intro listed a x hj hall
                  obtain ⟨l0, hj⟩ := hj
                  obtain ⟨l1, hj⟩ := hj
                  obtain ⟨l2, hj⟩ := hj
                  obtain ⟨l3, hj⟩ := hj
                  obtain ⟨l4, hj⟩ := hj
                  obtain ⟨l5, hj⟩ := hj
                  obtain ⟨l6, hj⟩ := hj
                  obtain ⟨l7, hj⟩ := hj
                  obtain ⟨l8, hj⟩ := hj
                  obtain ⟨l9, hj⟩ := hj
                  obtain ⟨t12, hj⟩ := hj
                  obtain ⟨t60, hj⟩ := hj
                  obtain ⟨t61, hj⟩ := hj
                  obtain ⟨t62, hj⟩ := hj
                  obtain ⟨t63, hj⟩ := hj
                  obtain ⟨t64, hj⟩ := hj
                  obtain ⟨t65, hj⟩ := hj
                  obtain ⟨t66, hj⟩ := hj
                  obtain ⟨t67, hj⟩ := hj
                  obtain ⟨t68, hj⟩ := hj
                  obtain ⟨hl_, hj⟩ := hj
                  obtain ⟨ha_, hj⟩ := hj
                  obtain ⟨H0, hj⟩ := hj
                  obtain ⟨H1, hj⟩ := hj
                  obtain ⟨H2, hj⟩ := hj
                  obtain ⟨H3, hj⟩ := hj
                  obtain ⟨H4, hj⟩ := hj
                  obtain ⟨H5, hj⟩ := hj
                  obtain ⟨H6, hj⟩ := hj
                  obtain ⟨H7, hj⟩ := hj
                  obtain ⟨H8, hj⟩ := hj
                  obtain ⟨H9, hj⟩ := hj
                  have HS := hj
                  clear hj
                  subst hl_
                  subst ha_
                  have q8 : l8 = true := hall 8 (by omega)
                  have q9 : l9 = true := hall 9 (by omega)
                  clear hall
                  have e8 := (H8.out q8)
                  subst e8
                  obtain ⟨pq9, cq9, e9, c9_0⟩ := (H9.out q9)
                  subst e9
                  refine tail_any (fun a x => ∃ (t12 t13 t60 t61 t62 t63 t64 t65 t66 t67 t68 : Value), a = ⟨(.agg #[.string raw.uid, .int .i64 raw.seq, .bool raw.canc, .int .i64 raw.days.first, .int .i64 raw.days.last, .int .i64 raw.days.every, .int .i64 raw.days.wd, .slice p raw.days.ex.length c, .slice p2 raw.days.xt.length c2, .int .i64 raw.start, .int .i64 raw.mins, .string raw.summ, .string raw.loc] :: .slice ao len cap :: .pointer (some ⟨w.heap.size, 0, none⟩) :: undef :: u4 :: .pointer (some ⟨b, 0, none⟩) :: .pointer (some ⟨Z, 0, none⟩) :: .pointer (some ⟨F, 0, none⟩) :: .slice (some ⟨ga, 0, none⟩) N ca :: .int .i64 k :: .slice p5 XS.length c5 :: .int .i64 ER :: t12 :: t13 :: u14 :: u15 :: u16 :: u17 :: u18 :: u19 :: u20 :: u21 :: u22 :: u23 :: u24 :: u25 :: u26 :: u27 :: u28 :: u29 :: u30 :: u31 :: u32 :: u33 :: .pointer (some ⟨b, 0, none⟩) :: .agg #[.string fn, .int .i64 fv, .slice pu ts.length cu] :: .agg #[.string raw.uid, .int .i64 raw.seq, .bool raw.canc, .int .i64 raw.days.first, .int .i64 raw.days.last, .int .i64 raw.days.every, .int .i64 raw.days.wd, .slice p raw.days.ex.length c, .slice p2 raw.days.xt.length c2, .int .i64 raw.start, .int .i64 raw.mins, .string raw.summ, .string raw.loc] :: .slice (some ⟨wf.heap.size, 0, none⟩) 1 1 :: .pointer (some ⟨F, 2, none⟩) :: .slice pu ts.length cu :: .slice (some ⟨ga, 0, none⟩) N ca :: .int .i64 k :: .slice (some ⟨ga, 0, none⟩) N ca :: .int .i64 N :: .bool true :: .bool true :: .int .i64 k :: .bool true :: .bool true :: u49 :: u50 :: t51 :: t52 :: t53 :: t54 :: t55 :: t56 :: t57 :: t58 :: t59 :: t60 :: t61 :: t62 :: t63 :: t64 :: t65 :: t66 :: t67 :: t68 :: u69 :: u70 :: u71 :: u72 :: u73 :: u74 :: u75 :: u76 :: u77 :: u78 :: u79 :: u80 :: u81 :: u82 :: u83 :: u84 :: u85 :: []).toArray, []⟩ ∧ ∃ (p5 : Option Addr) (c5 : Nat), t12 = .slice p5 XS.length c5 ∧ t13 = .int .i64 ER ∧ RowI wy.heap.size x (.slice p5 XS.length c5) XS ∧ Grow wy x) ?_ fun QQ hQ => ?_
                  · intro a x hpost
                    obtain ⟨t12, hpost⟩ := hpost
                    obtain ⟨t13, hpost⟩ := hpost
                    obtain ⟨t60, hpost⟩ := hpost
                    obtain ⟨t61, hpost⟩ := hpost
                    obtain ⟨t62, hpost⟩ := hpost
                    obtain ⟨t63, hpost⟩ := hpost
                    obtain ⟨t64, hpost⟩ := hpost
                    obtain ⟨t65, hpost⟩ := hpost
                    obtain ⟨t66, hpost⟩ := hpost
                    obtain ⟨t67, hpost⟩ := hpost
                    obtain ⟨t68, hpost⟩ := hpost
                    obtain ⟨ha_, hpost⟩ := hpost
                    subst ha_
                    obtain ⟨p6, c6, rfl, rfl, hR6, hS_⟩ := hpost
                    have HZ2 := Lib.hid (hS_.blk HZ1.out)
                    have HSZ2 := Lib.hid (show RowZ w3.heap.size x (.slice pz sh.length cz) sh from row_below' HSZ1.out hS_.below)
                    have HA2 := Lib.hid (row_below' HA1.out hS_.below)
                    have HR2 := Lib.hid (fun t ht => (HR1.out t ht).below hS_.below)
                    have HL2_ := Lib.hid (HL1.out.trans (hS_.below.mono HL1.out.size))
                    obtain ⟨a5, q5, e5, i5⟩ := (show RowI wr.heap.size x (.slice p5 XS.length c5) XS from row_below' HI5.out hS_.below).ints
                    obtain ⟨a6, q6, e6, i6⟩ := hR6.ints
                    have hfew := hR6.few
                    cases e5
                    cases e6
                    have HI6 := Lib.hid (And.intro i5 i6)
                    clear hS_ hR6 HC56 HZ1 HSZ1 HA1 HR1 HL1 HI5 i5 i6
                    have hee : (ER != ER) = false := by simp
                    go_wp2_with fail
                    refine (sameints57 XS XS p5 p6 c5 c6 x x.heap.size HI6.out.1 HI6.out.2 hfew).mono ?_
                    rintro e w8 ⟨rfl, nq, hw8⟩
                    have hds : decide (XS = XS) = true := decide_eq_true rfl
                    rw [hds]
                    have HZ3 := Lib.hid (show Blk Z #[.string zn, .int .i64 zv, .slice pz sh.length cz] 50 w8 from by rw [hw8]; exact HZ2.out)
                    have hb8 : Below x.heap.size x w8 := by rw [hw8]; exact below_drew (Below.refl _ x)
                    have HSZ3 := Lib.hid (show RowZ w3.heap.size w8 (.slice pz sh.length cz) sh from row_below' HSZ2.out hb8)
                    have HA3 := Lib.hid (row_below' HA2.out hb8)
                    have HR3 := Lib.hid (fun t ht => (HR2.out t ht).below hb8)
                    have HL3_ := Lib.hid (HL2_.out.trans (hb8.mono HL2_.out.size))
                    clear hw8 hb8 hds HI6 HZ2 HSZ2 HA2 HR2 HL2_
                    go_wp2_with fail
                    go_roundw
                    case rel => exact ⟨k + 1, by go_num, by omega, by omega, HZ3, HSZ3, HA3, HR3, HL3_⟩
                    case measure => simp [intOf]; omega
                  have hQQ := Lib.hid hQ
                  clear hQ
                  simp only [List.drop_succ_cons, List.drop_zero]
                  go_wp2_with fail
                  exact hQQ.out _ _ ⟨_, _, _, _, _, _, _, _, _, _, _, rfl, _, _, rfl, rfl, c9_0, HS.out⟩
              have hQQ := Lib.hid hQ
              clear hQ
              simp only [List.drop_succ_cons, List.drop_zero]
              go_wp2_with fail
              exact hQQ.out _ _ ⟨_, _, _, _, _, _, _, _, _, _, _, rfl, _, _, rfl, rfl, c9_0, HS.out⟩
          · have HZV := Lib.hid (show ∃ q, q = Tt.zoneV (Tt.code zn.data.toList) zv sh from ⟨_, rfl⟩)
            obtain ⟨ZV, hZV⟩ := HZV.out
            have HQV := Lib.hid hZV
            clear hZV HZV
            rcases Nat.lt_or_ge k N with hlt | hge
            · have hlti : (k : Int) < N := by omega
              have hl9i : ¬ (k : Int) < 9 := by omega
              go_wp2_with fail
              refine wp_region_tail 3 (by kernel_rfl) (fun listed a x => ∃ (l0 l1 l2 : Bool) (t78 t79 t80 : Value), listed = #[l0, l1, l2, false, false, false, false, false, false] ∧ a = ⟨(.agg #[.string raw.uid, .int .i64 raw.seq, .bool raw.canc, .int .i64 raw.days.first, .int .i64 raw.days.last, .int .i64 raw.days.every, .int .i64 raw.days.wd, .slice p raw.days.ex.length c, .slice p2 raw.days.xt.length c2, .int .i64 raw.start, .int .i64 raw.mins, .string raw.summ, .string raw.loc] :: .slice ao len cap :: .pointer (some ⟨w.heap.size, 0, none⟩) :: undef :: u4 :: .pointer (some ⟨b, 0, none⟩) :: .pointer (some ⟨Z, 0, none⟩) :: .pointer (some ⟨F, 0, none⟩) :: .slice (some ⟨ga, 0, none⟩) N ca :: .int .i64 k :: u10 :: u11 :: u12 :: u13 :: u14 :: u15 :: u16 :: u17 :: u18 :: u19 :: u20 :: u21 :: u22 :: u23 :: u24 :: u25 :: u26 :: u27 :: u28 :: u29 :: u30 :: u31 :: u32 :: u33 :: .pointer (some ⟨b, 0, none⟩) :: .agg #[.string fn, .int .i64 fv, .slice pu ts.length cu] :: .agg #[.string raw.uid, .int .i64 raw.seq, .bool raw.canc, .int .i64 raw.days.first, .int .i64 raw.days.last, .int .i64 raw.days.every, .int .i64 raw.days.wd, .slice p raw.days.ex.length c, .slice p2 raw.days.xt.length c2, .int .i64 raw.start, .int .i64 raw.mins, .string raw.summ, .string raw.loc] :: .slice (some ⟨wf.heap.size, 0, none⟩) 1 1 :: .pointer (some ⟨F, 2, none⟩) :: .slice pu ts.length cu :: .slice (some ⟨ga, 0, none⟩) N ca :: .int .i64 k :: .slice (some ⟨ga, 0, none⟩) N ca :: .int .i64 N :: .bool true :: .bool true :: .int .i64 k :: .bool false :: .bool false :: u49 :: u50 :: u51 :: u52 :: u53 :: u54 :: u55 :: u56 :: u57 :: u58 :: u59 :: u60 :: u61 :: u62 :: u63 :: u64 :: u65 :: u66 :: u67 :: u68 :: u69 :: u70 :: u71 :: u72 :: u73 :: u74 :: u75 :: u76 :: u77 :: t78 :: t79 :: t80 :: u81 :: u82 :: u83 :: u84 :: u85 :: []).toArray, []⟩ ∧ Hid (l0 = true → t78 = .agg #[.string zn, .int .i64 zv, .slice pz sh.length cz]) ∧ Hid (l1 = true → t79 = .int .i64 ZV) ∧ Hid (l2 = true → t80 = .agg #[.string zn, .int .i64 zv, .slice pz sh.length cz]) ∧ Hid (Grow wr x)) (by decide) (by kernel_rfl) (by kernel_rfl) ?_ ?_ ?_ ?_
              · exact ⟨false, false, false, _, _, _, rfl, rfl, Lib.hid (fun h => by cases h), Lib.hid (fun h => by cases h), Lib.hid (fun h => by cases h), Lib.hid (Grow.start wr)⟩
              · intro listed a x hj
                obtain ⟨l0, hj⟩ := hj
                obtain ⟨l1, hj⟩ := hj
                obtain ⟨l2, hj⟩ := hj
                obtain ⟨t78, hj⟩ := hj
                obtain ⟨t79, hj⟩ := hj
                obtain ⟨t80, hj⟩ := hj
                obtain ⟨h1, -⟩ := hj
                subst h1
                exact ⟨rfl, fun k h1 h2 => by (have h2 : k < 9 := h2); rcases (show k = 3 ∨ k = 4 ∨ k = 5 ∨ k = 6 ∨ k = 7 ∨ k = 8 by omega) with rfl | rfl | rfl | rfl | rfl | rfl <;> rfl⟩
              · intro listed a x i hj hlt hu haf
                obtain ⟨l0, hj⟩ := hj
                obtain ⟨l1, hj⟩ := hj
                obtain ⟨l2, hj⟩ := hj
                obtain ⟨t78, hj⟩ := hj
                obtain ⟨t79, hj⟩ := hj
                obtain ⟨t80, hj⟩ := hj
                obtain ⟨hl_, hj⟩ := hj
                obtain ⟨ha_, hj⟩ := hj
                obtain ⟨H0, hj⟩ := hj
                obtain ⟨H1, hj⟩ := hj
                obtain ⟨H2, hj⟩ := hj
                have HS := hj
                clear hj
                subst hl_
                subst ha_
                rcases (show ∀ i : Nat, i < 3 → (i = 0 ∨ i = 1 ∨ i = 2) by decide) i hlt with rfl | rfl | rfl
                · have haf := haf _ rfl
                  clear haf
                  have hu : l0 = false := hu
                  obtain ⟨z0, z1, z2⟩ := And.intro ((HS.out.blk HZ.out).cell 0) (And.intro ((HS.out.blk HZ.out).cell 1) ((HS.out.blk HZ.out).cell 2))
                  simp only [List.getElem?_toArray, List.getElem?_cons_zero, List.getElem?_cons_succ] at z0 z1 z2
                  refine wpOp_of_list_any rfl fun QQ hQ => ?_
                  have hQQ := Lib.hid hQ
                  clear hQ
                  simp only [List.getElem_toArray, List.getElem_cons_zero]
                  go_wp2_with fail
                  exact hQQ.out _ _ ⟨true, l1, l2, _, _, _, rfl, rfl, Lib.hid (fun _ => rfl), H1, H2, HS⟩
                · have haf := haf _ rfl
                  have q0 : l0 = true := haf ⟨0, Go.Ground.data⟩ (by simp) rfl
                  clear haf
                  have hu : l1 = false := hu
                  have e0 := (H0.out q0)
                  subst e0
                  clear H0
                  refine wpOp_of_list_any rfl fun QQ hQ => ?_
                  have hQQ := Lib.hid hQ
                  clear hQ
                  simp only [List.getElem_toArray, List.getElem_cons_zero, List.getElem_cons_succ]
                  go_wp2_with fail
                  obtain ⟨a1, q1, e1, s1⟩ := HSZ.out.shs
                  cases e1
                  refine (zone58 zn zv sh pz cz x.heap.size x (Nat.le_refl _) ((s1.below HS.out.below).mono HS.out.below.size) (by omega)).mono ?_
                  rintro e x1 ⟨rfl, hb1⟩
                  rw [← HQV.out]
                  have hk := Kept.of_below (B := wr.heap.size) hb1
                  have HS1 := Lib.hid (HS.out.then hb1)
                  clear hb1 s1
                  go_wp2_with fail
                  exact hQQ.out _ _ ⟨l0, true, l2, _, _, _, rfl, rfl, Lib.hid (fun _ => rfl), Lib.hid (fun _ => rfl), H2, HS1⟩
                · have haf := haf _ rfl
                  clear haf
                  have hu : l2 = false := hu
                  obtain ⟨z0, z1, z2⟩ := And.intro ((HS.out.blk HZ.out).cell 0) (And.intro ((HS.out.blk HZ.out).cell 1) ((HS.out.blk HZ.out).cell 2))
                  simp only [List.getElem?_toArray, List.getElem?_cons_zero, List.getElem?_cons_succ] at z0 z1 z2
                  refine wpOp_of_list_any rfl fun QQ hQ => ?_
                  have hQQ := Lib.hid hQ
                  clear hQ
                  simp only [List.getElem_toArray, List.getElem_cons_zero, List.getElem_cons_succ]
                  go_wp2_with fail
                  exact hQQ.out _ _ ⟨l0, l1, true, _, _, _, rfl, rfl, H0, H1, Lib.hid (fun _ => rfl), HS⟩
              · intro listed a x hj hall
                obtain ⟨l0, hj⟩ := hj
                obtain ⟨l1, hj⟩ := hj
                obtain ⟨l2, hj⟩ := hj
                obtain ⟨t78, hj⟩ := hj
                obtain ⟨t79, hj⟩ := hj
                obtain ⟨t80, hj⟩ := hj
                obtain ⟨hl_, hj⟩ := hj
                obtain ⟨ha_, hj⟩ := hj
                obtain ⟨H0, hj⟩ := hj
                obtain ⟨H1, hj⟩ := hj
                obtain ⟨H2, hj⟩ := hj
                have HS := hj
                clear hj
                subst hl_
                subst ha_
                have q1 : l1 = true := hall 1 (by omega)
                have q2 : l2 = true := hall 2 (by omega)
                clear hall
                have e1 := (H1.out q1)
                subst e1
                have e2 := (H2.out q2)
                subst e2
                refine tail_any (fun a x => ∃ (t4 t78 t79 t80 t81 t82 t83 t84 t85 : Value), a = ⟨(.agg #[.string raw.uid, .int .i64 raw.seq, .bool raw.canc, .int .i64 raw.days.first, .int .i64 raw.days.last, .int .i64 raw.days.every, .int .i64 raw.days.wd, .slice p raw.days.ex.length c, .slice p2 raw.days.xt.length c2, .int .i64 raw.start, .int .i64 raw.mins, .string raw.summ, .string raw.loc] :: .slice ao len cap :: .pointer (some ⟨w.heap.size, 0, none⟩) :: undef :: t4 :: .pointer (some ⟨b, 0, none⟩) :: .pointer (some ⟨Z, 0, none⟩) :: .pointer (some ⟨F, 0, none⟩) :: .slice (some ⟨ga, 0, none⟩) N ca :: .int .i64 k :: u10 :: u11 :: u12 :: u13 :: u14 :: u15 :: u16 :: u17 :: u18 :: u19 :: u20 :: u21 :: u22 :: u23 :: u24 :: u25 :: u26 :: u27 :: u28 :: u29 :: u30 :: u31 :: u32 :: u33 :: .pointer (some ⟨b, 0, none⟩) :: .agg #[.string fn, .int .i64 fv, .slice pu ts.length cu] :: .agg #[.string raw.uid, .int .i64 raw.seq, .bool raw.canc, .int .i64 raw.days.first, .int .i64 raw.days.last, .int .i64 raw.days.every, .int .i64 raw.days.wd, .slice p raw.days.ex.length c, .slice p2 raw.days.xt.length c2, .int .i64 raw.start, .int .i64 raw.mins, .string raw.summ, .string raw.loc] :: .slice (some ⟨wf.heap.size, 0, none⟩) 1 1 :: .pointer (some ⟨F, 2, none⟩) :: .slice pu ts.length cu :: .slice (some ⟨ga, 0, none⟩) N ca :: .int .i64 k :: .slice (some ⟨ga, 0, none⟩) N ca :: .int .i64 N :: .bool true :: .bool true :: .int .i64 k :: .bool false :: .bool false :: u49 :: u50 :: u51 :: u52 :: u53 :: u54 :: u55 :: u56 :: u57 :: u58 :: u59 :: u60 :: u61 :: u62 :: u63 :: u64 :: u65 :: u66 :: u67 :: u68 :: u69 :: u70 :: u71 :: u72 :: u73 :: u74 :: u75 :: u76 :: u77 :: t78 :: t79 :: t80 :: t81 :: t82 :: t83 :: t84 :: t85 :: []).toArray, []⟩ ∧ t4 = .bool true ∧ Below w.heap.size w x) ?_ fun QQ hQ => ?_
                · intro a x hpost
                  obtain ⟨t4, hpost⟩ := hpost
                  obtain ⟨t78, hpost⟩ := hpost
                  obtain ⟨t79, hpost⟩ := hpost
                  obtain ⟨t80, hpost⟩ := hpost
                  obtain ⟨t81, hpost⟩ := hpost
                  obtain ⟨t82, hpost⟩ := hpost
                  obtain ⟨t83, hpost⟩ := hpost
                  obtain ⟨t84, hpost⟩ := hpost
                  obtain ⟨t85, hpost⟩ := hpost
                  obtain ⟨ha_, hpost⟩ := hpost
                  subst ha_
                  obtain ⟨rfl, hLE⟩ := hpost
                  go_wp2_with fail
                  go_ret
                  exact ⟨rfl, hLE⟩
                have hQQ := Lib.hid hQ
                clear hQ
                simp only [List.drop_succ_cons, List.drop_zero]
                go_wp2_with fail
                obtain ⟨a1, q1, e1, s1⟩ := HSZ.out.shs
                cases e1
                refine (zone59 zn zv sh pz cz x.heap.size x (Nat.le_refl _) ((s1.below HS.out.below).mono HS.out.below.size) (by omega)).mono ?_
                rintro e x1 ⟨rfl, hb1⟩
                rw [← HQV.out]
                have LX := HL.out.trans ((HS.out.then hb1).below.mono HL.out.size)
                have HMX := Lib.hid ((LX.cell (p := ⟨0, 0, none⟩) h0).trans HM.out)
                have HLX := Lib.hid LX
                have h0x : 0 < x1.heap.size := by have := LX.size; omega
                clear hb1 s1 LX
                have hzz : (ZV == ZV) = true := by simp
                go_wp2_with fail
                refine (awake_any x1 m HMX.out h0x).mono ?_
                rintro e x2 ⟨rfl, hb2⟩
                have HLY := Lib.hid (HLX.out.trans (hb2.mono HLX.out.size))
                clear hb2
                go_wp2_with fail
                exact hQQ.out _ _ ⟨_, _, _, _, _, _, _, _, _, rfl, rfl, HLY.out⟩
            · have hlti : ¬ (k : Int) < N := by omega
              go_wp2_with fail
              refine wp_region_tail 3 (by kernel_rfl) (fun listed a x => ∃ (l0 l1 l2 : Bool) (t78 t79 t80 : Value), listed = #[l0, l1, l2, false, false, false, false, false, false] ∧ a = ⟨(.agg #[.string raw.uid, .int .i64 raw.seq, .bool raw.canc, .int .i64 raw.days.first, .int .i64 raw.days.last, .int .i64 raw.days.every, .int .i64 raw.days.wd, .slice p raw.days.ex.length c, .slice p2 raw.days.xt.length c2, .int .i64 raw.start, .int .i64 raw.mins, .string raw.summ, .string raw.loc] :: .slice ao len cap :: .pointer (some ⟨w.heap.size, 0, none⟩) :: undef :: u4 :: .pointer (some ⟨b, 0, none⟩) :: .pointer (some ⟨Z, 0, none⟩) :: .pointer (some ⟨F, 0, none⟩) :: .slice (some ⟨ga, 0, none⟩) N ca :: .int .i64 k :: u10 :: u11 :: u12 :: u13 :: u14 :: u15 :: u16 :: u17 :: u18 :: u19 :: u20 :: u21 :: u22 :: u23 :: u24 :: u25 :: u26 :: u27 :: u28 :: u29 :: u30 :: u31 :: u32 :: u33 :: .pointer (some ⟨b, 0, none⟩) :: .agg #[.string fn, .int .i64 fv, .slice pu ts.length cu] :: .agg #[.string raw.uid, .int .i64 raw.seq, .bool raw.canc, .int .i64 raw.days.first, .int .i64 raw.days.last, .int .i64 raw.days.every, .int .i64 raw.days.wd, .slice p raw.days.ex.length c, .slice p2 raw.days.xt.length c2, .int .i64 raw.start, .int .i64 raw.mins, .string raw.summ, .string raw.loc] :: .slice (some ⟨wf.heap.size, 0, none⟩) 1 1 :: .pointer (some ⟨F, 2, none⟩) :: .slice pu ts.length cu :: .slice (some ⟨ga, 0, none⟩) N ca :: .int .i64 k :: .slice (some ⟨ga, 0, none⟩) N ca :: .int .i64 N :: .bool false :: .bool false :: undef :: undef :: .bool false :: u49 :: u50 :: u51 :: u52 :: u53 :: u54 :: u55 :: u56 :: u57 :: u58 :: u59 :: u60 :: u61 :: u62 :: u63 :: u64 :: u65 :: u66 :: u67 :: u68 :: u69 :: u70 :: u71 :: u72 :: u73 :: u74 :: u75 :: u76 :: u77 :: t78 :: t79 :: t80 :: u81 :: u82 :: u83 :: u84 :: u85 :: []).toArray, []⟩ ∧ Hid (l0 = true → t78 = .agg #[.string zn, .int .i64 zv, .slice pz sh.length cz]) ∧ Hid (l1 = true → t79 = .int .i64 ZV) ∧ Hid (l2 = true → t80 = .agg #[.string zn, .int .i64 zv, .slice pz sh.length cz]) ∧ Hid (Grow wr x)) (by decide) (by kernel_rfl) (by kernel_rfl) ?_ ?_ ?_ ?_
              · exact ⟨false, false, false, _, _, _, rfl, rfl, Lib.hid (fun h => by cases h), Lib.hid (fun h => by cases h), Lib.hid (fun h => by cases h), Lib.hid (Grow.start wr)⟩
              · intro listed a x hj
                obtain ⟨l0, hj⟩ := hj
                obtain ⟨l1, hj⟩ := hj
                obtain ⟨l2, hj⟩ := hj
                obtain ⟨t78, hj⟩ := hj
                obtain ⟨t79, hj⟩ := hj
                obtain ⟨t80, hj⟩ := hj
                obtain ⟨h1, -⟩ := hj
                subst h1
                exact ⟨rfl, fun k h1 h2 => by (have h2 : k < 9 := h2); rcases (show k = 3 ∨ k = 4 ∨ k = 5 ∨ k = 6 ∨ k = 7 ∨ k = 8 by omega) with rfl | rfl | rfl | rfl | rfl | rfl <;> rfl⟩
              · intro listed a x i hj hlt hu haf
                obtain ⟨l0, hj⟩ := hj
                obtain ⟨l1, hj⟩ := hj
                obtain ⟨l2, hj⟩ := hj
                obtain ⟨t78, hj⟩ := hj
                obtain ⟨t79, hj⟩ := hj
                obtain ⟨t80, hj⟩ := hj
                obtain ⟨hl_, hj⟩ := hj
                obtain ⟨ha_, hj⟩ := hj
                obtain ⟨H0, hj⟩ := hj
                obtain ⟨H1, hj⟩ := hj
                obtain ⟨H2, hj⟩ := hj
                have HS := hj
                clear hj
                subst hl_
                subst ha_
                rcases (show ∀ i : Nat, i < 3 → (i = 0 ∨ i = 1 ∨ i = 2) by decide) i hlt with rfl | rfl | rfl
                · have haf := haf _ rfl
                  clear haf
                  have hu : l0 = false := hu
                  obtain ⟨z0, z1, z2⟩ := And.intro ((HS.out.blk HZ.out).cell 0) (And.intro ((HS.out.blk HZ.out).cell 1) ((HS.out.blk HZ.out).cell 2))
                  simp only [List.getElem?_toArray, List.getElem?_cons_zero, List.getElem?_cons_succ] at z0 z1 z2
                  refine wpOp_of_list_any rfl fun QQ hQ => ?_
                  have hQQ := Lib.hid hQ
                  clear hQ
                  simp only [List.getElem_toArray, List.getElem_cons_zero]
                  go_wp2_with fail
                  exact hQQ.out _ _ ⟨true, l1, l2, _, _, _, rfl, rfl, Lib.hid (fun _ => rfl), H1, H2, HS⟩
                · have haf := haf _ rfl
                  have q0 : l0 = true := haf ⟨0, Go.Ground.data⟩ (by simp) rfl
                  clear haf
                  have hu : l1 = false := hu
                  have e0 := (H0.out q0)
                  subst e0
                  clear H0
                  refine wpOp_of_list_any rfl fun QQ hQ => ?_
                  have hQQ := Lib.hid hQ
                  clear hQ
                  simp only [List.getElem_toArray, List.getElem_cons_zero, List.getElem_cons_succ]
                  go_wp2_with fail
                  obtain ⟨a1, q1, e1, s1⟩ := HSZ.out.shs
                  cases e1
                  refine (zone58 zn zv sh pz cz x.heap.size x (Nat.le_refl _) ((s1.below HS.out.below).mono HS.out.below.size) (by omega)).mono ?_
                  rintro e x1 ⟨rfl, hb1⟩
                  rw [← HQV.out]
                  have hk := Kept.of_below (B := wr.heap.size) hb1
                  have HS1 := Lib.hid (HS.out.then hb1)
                  clear hb1 s1
                  go_wp2_with fail
                  exact hQQ.out _ _ ⟨l0, true, l2, _, _, _, rfl, rfl, Lib.hid (fun _ => rfl), Lib.hid (fun _ => rfl), H2, HS1⟩
                · have haf := haf _ rfl
                  clear haf
                  have hu : l2 = false := hu
                  obtain ⟨z0, z1, z2⟩ := And.intro ((HS.out.blk HZ.out).cell 0) (And.intro ((HS.out.blk HZ.out).cell 1) ((HS.out.blk HZ.out).cell 2))
                  simp only [List.getElem?_toArray, List.getElem?_cons_zero, List.getElem?_cons_succ] at z0 z1 z2
                  refine wpOp_of_list_any rfl fun QQ hQ => ?_
                  have hQQ := Lib.hid hQ
                  clear hQ
                  simp only [List.getElem_toArray, List.getElem_cons_zero, List.getElem_cons_succ]
                  go_wp2_with fail
                  exact hQQ.out _ _ ⟨l0, l1, true, _, _, _, rfl, rfl, H0, H1, Lib.hid (fun _ => rfl), HS⟩
              · intro listed a x hj hall
                obtain ⟨l0, hj⟩ := hj
                obtain ⟨l1, hj⟩ := hj
                obtain ⟨l2, hj⟩ := hj
                obtain ⟨t78, hj⟩ := hj
                obtain ⟨t79, hj⟩ := hj
                obtain ⟨t80, hj⟩ := hj
                obtain ⟨hl_, hj⟩ := hj
                obtain ⟨ha_, hj⟩ := hj
                obtain ⟨H0, hj⟩ := hj
                obtain ⟨H1, hj⟩ := hj
                obtain ⟨H2, hj⟩ := hj
                have HS := hj
                clear hj
                subst hl_
                subst ha_
                have q1 : l1 = true := hall 1 (by omega)
                have q2 : l2 = true := hall 2 (by omega)
                clear hall
                have e1 := (H1.out q1)
                subst e1
                have e2 := (H2.out q2)
                subst e2
                refine tail_any (fun a x => ∃ (t4 t78 t79 t80 t81 t82 t83 t84 t85 : Value), a = ⟨(.agg #[.string raw.uid, .int .i64 raw.seq, .bool raw.canc, .int .i64 raw.days.first, .int .i64 raw.days.last, .int .i64 raw.days.every, .int .i64 raw.days.wd, .slice p raw.days.ex.length c, .slice p2 raw.days.xt.length c2, .int .i64 raw.start, .int .i64 raw.mins, .string raw.summ, .string raw.loc] :: .slice ao len cap :: .pointer (some ⟨w.heap.size, 0, none⟩) :: undef :: t4 :: .pointer (some ⟨b, 0, none⟩) :: .pointer (some ⟨Z, 0, none⟩) :: .pointer (some ⟨F, 0, none⟩) :: .slice (some ⟨ga, 0, none⟩) N ca :: .int .i64 k :: u10 :: u11 :: u12 :: u13 :: u14 :: u15 :: u16 :: u17 :: u18 :: u19 :: u20 :: u21 :: u22 :: u23 :: u24 :: u25 :: u26 :: u27 :: u28 :: u29 :: u30 :: u31 :: u32 :: u33 :: .pointer (some ⟨b, 0, none⟩) :: .agg #[.string fn, .int .i64 fv, .slice pu ts.length cu] :: .agg #[.string raw.uid, .int .i64 raw.seq, .bool raw.canc, .int .i64 raw.days.first, .int .i64 raw.days.last, .int .i64 raw.days.every, .int .i64 raw.days.wd, .slice p raw.days.ex.length c, .slice p2 raw.days.xt.length c2, .int .i64 raw.start, .int .i64 raw.mins, .string raw.summ, .string raw.loc] :: .slice (some ⟨wf.heap.size, 0, none⟩) 1 1 :: .pointer (some ⟨F, 2, none⟩) :: .slice pu ts.length cu :: .slice (some ⟨ga, 0, none⟩) N ca :: .int .i64 k :: .slice (some ⟨ga, 0, none⟩) N ca :: .int .i64 N :: .bool false :: .bool false :: undef :: undef :: .bool false :: u49 :: u50 :: u51 :: u52 :: u53 :: u54 :: u55 :: u56 :: u57 :: u58 :: u59 :: u60 :: u61 :: u62 :: u63 :: u64 :: u65 :: u66 :: u67 :: u68 :: u69 :: u70 :: u71 :: u72 :: u73 :: u74 :: u75 :: u76 :: u77 :: t78 :: t79 :: t80 :: t81 :: t82 :: t83 :: t84 :: t85 :: []).toArray, []⟩ ∧ t4 = .bool true ∧ Below w.heap.size w x) ?_ fun QQ hQ => ?_
                · intro a x hpost
                  obtain ⟨t4, hpost⟩ := hpost
                  obtain ⟨t78, hpost⟩ := hpost
                  obtain ⟨t79, hpost⟩ := hpost
                  obtain ⟨t80, hpost⟩ := hpost
                  obtain ⟨t81, hpost⟩ := hpost
                  obtain ⟨t82, hpost⟩ := hpost
                  obtain ⟨t83, hpost⟩ := hpost
                  obtain ⟨t84, hpost⟩ := hpost
                  obtain ⟨t85, hpost⟩ := hpost
                  obtain ⟨ha_, hpost⟩ := hpost
                  subst ha_
                  obtain ⟨rfl, hLE⟩ := hpost
                  go_wp2_with fail
                  go_ret
                  exact ⟨rfl, hLE⟩
                have hQQ := Lib.hid hQ
                clear hQ
                simp only [List.drop_succ_cons, List.drop_zero]
                go_wp2_with fail
                obtain ⟨a1, q1, e1, s1⟩ := HSZ.out.shs
                cases e1
                refine (zone59 zn zv sh pz cz x.heap.size x (Nat.le_refl _) ((s1.below HS.out.below).mono HS.out.below.size) (by omega)).mono ?_
                rintro e x1 ⟨rfl, hb1⟩
                rw [← HQV.out]
                have LX := HL.out.trans ((HS.out.then hb1).below.mono HL.out.size)
                have HMX := Lib.hid ((LX.cell (p := ⟨0, 0, none⟩) h0).trans HM.out)
                have HLX := Lib.hid LX
                have h0x : 0 < x1.heap.size := by have := LX.size; omega
                clear hb1 s1 LX
                have hzz : (ZV == ZV) = true := by simp
                go_wp2_with fail
                refine (awake_any x1 m HMX.out h0x).mono ?_
                rintro e x2 ⟨rfl, hb2⟩
                have HLY := Lib.hid (HLX.out.trans (hb2.mono HLX.out.size))
                clear hb2
                go_wp2_with fail
                exact hQQ.out _ _ ⟨_, _, _, _, _, _, _, _, _, rfl, rfl, HLY.out⟩
  · have hd1 : decide ((len : Int) ≤ 400) = false := decide_eq_false hlen
    unfold evVal
    unfold evCells at HX0 HM0 hL0 ⊢
    go_enter Tryz.func10, Tryz.ntmps10
    go_wp2_with fail
    refine (light_any _ _ _ _).mono ?_
    rintro e w1 ⟨rfl, hw⟩
    rw [hw, hd1]
    clear hw w1 hd1
    go_wp2_with fail
    refine (awake_any _ m HM0.out (by simp)).mono ?_
    rintro e w3 ⟨rfl, hb3⟩
    go_wp2_with fail
    go_ret
    exact ⟨rfl, hL0.trans (hb3.mono hL0.size)⟩
end Go.Proofs.YtageielcdebjlaaGreatDoor
