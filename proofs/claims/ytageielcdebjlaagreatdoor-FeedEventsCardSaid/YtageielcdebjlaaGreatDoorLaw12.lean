/- FeedEvents: the walk of the law. -/
import Derived.Test.YtageielcdebjlaaGreatDoorTermG
import Derived.Test.YtageielcdebjlaaGreatDoorEvO
import Derived.Test.YtageielcdebjlaaGreatDoorPk14
import Derived.Test.YtageielcdebjlaaGreatDoorPk31
namespace Go.Proofs.YtageielcdebjlaaGreatDoor
open Go.RowKit

theorem RowSS.below {lo : Nat} {w w' : World} {u : Value} {ls : List (Value × List Ses)} (h : RowSS lo w u ls) (hb : Below w.heap.size w w') : RowSS lo w' u ls := ⟨ownsRow_below h.row hb, fun q hq => ownsRow_below (h.each q hq) hb⟩
theorem RowI.int_at {lo c : Nat} {w : World} {ao : Option Addr} {xs : List Int} (h : RowI lo w (.slice ao xs.length c) xs) : Ints w.heap.size w ao xs := by
  obtain ⟨a1, a2, ha, hi⟩ := RowI.ints h
  have e : a1 = ao := by injection ha with h1 h2 h3; exact h1.symm
  exact e ▸ hi
theorem ev_len (g : Tt.Grd) (t : Tt.Trm) (s : Ses) (q : Int) : (evOf g t s q).days.ex.length ≤ 4611686018427387903 ∧ (evOf g t s q).days.xt.length ≤ 4611686018427387903 := by
  unfold evOf
  split
  · rename_i h
    have hne : Tt.daysK t s.tim 20 ≠ [] := by
      intro hc; unfold evB at h
      rw [hc] at h
      simp at h
    have := Tt.best_len (Tt.daysK t s.tim 20) (Tt.daysK_ok _ _ hne).span.2 3
    exact ⟨by show (Tt.bestK _ 3).ex.length ≤ _; omega, by show (Tt.bestK _ 3).xt.length ≤ _; omega⟩
  · exact ⟨by decide, by decide⟩
set_option maxHeartbeats 16000000 in
set_option maxRecDepth 100000 in
theorem law12 (s : Ses) (q : Int) (ao : Option Addr) (len cap : Nat) (w : World) (mx : Int) (hn : Nums w ao len) (hm : w.cell? ⟨0, 0, none⟩ = some (.int .i64 mx)) (hP : Pow w) (h6 : 6 < w.heap.size) : Calls Tryz.prog 12 #[sesVal s, .int .i64 q, .slice ao len cap] w fun e w' => e = .returned (.bool true) ∧ Below w.heap.size w w' := by
  obtain ⟨i0, hii, hz0, hz1, hz2⟩ := info_parts infoSes
  obtain ⟨X, hX⟩ : ∃ x, x = w.heap.size := ⟨_, rfl⟩
  obtain ⟨w0, hw0⟩ : ∃ x, x = w.alloc (.cells #[.string s.cls, .int .i64 s.tim.weeks, .int .i64 s.tim.day, .int .i64 s.tim.start, .int .i64 s.tim.len, .string s.room] 107) := ⟨_, rfl⟩
  have HB0 := Lib.hid (show Blk X #[.string s.cls, .int .i64 s.tim.weeks, .int .i64 s.tim.day, .int .i64 s.tim.start, .int .i64 s.tim.len, .string s.room] 107 w0 from by rw [hw0, hX]; exact Blk.new w _ _)
  have HL0 := Lib.hid (show Below w.heap.size w w0 from by rw [hw0]; exact below_box w _)
  have HN := Lib.hid hn; have HSix := Lib.hid h6; have HAW : Hid (∀ W, Below w.heap.size w W → Calls Tryz.prog 33 #[] W fun e w' => e = .returned (.bool true) ∧ Below W.heap.size W w') := Lib.hid (fun W hW => awake_any W mx ((hW.cell (p := ⟨0, 0, none⟩) (show 0 < w.heap.size by omega)).trans hm) (by have := hW.size; omega))
  have HPow : Hid (∀ W, Below w.heap.size w W → Pow W) := Lib.hid (fun W hW => hP.below h6 hW)
  clear hn hm hP h6; unfold sesVal sesCells
  have hc0 : ∀ x : Nat, x < 1 → True := fun _ _ => trivial
  clear hc0; have x0 : w0.cell? ⟨X, 0, none⟩ = some (.string s.cls) := HB0.out.cell 0
  have x1 : w0.cell? ⟨X, 1, none⟩ = some (.int .i64 s.tim.weeks) := HB0.out.cell 1
  have x2 : w0.cell? ⟨X, 2, none⟩ = some (.int .i64 s.tim.day) := HB0.out.cell 2
  have x3 : w0.cell? ⟨X, 3, none⟩ = some (.int .i64 s.tim.start) := HB0.out.cell 3
  have x4 : w0.cell? ⟨X, 4, none⟩ = some (.int .i64 s.tim.len) := HB0.out.cell 4
  have x5 : w0.cell? ⟨X, 5, none⟩ = some (.string s.room) := HB0.out.cell 5
  by_cases hlen : (len : Int) ≤ 400
  rotate_left
  · have hd1 : decide ((len : Int) ≤ 400) = false := decide_eq_false hlen
    go_enter Tryz.func12, Tryz.ntmps12
    go_upto_region 1 with (fail)
    rw [← hw0, ← hX]; clear hw0 hX; go_wp2_with fail
    refine (light_any ao len cap w0).mono ?_
    rintro e w1 ⟨rfl, hx⟩; rw [hx, hd1]
    clear hx w1; go_wp2_with fail
    refine (HAW.out _ HL0.out).mono ?_
    rintro e w2 ⟨rfl, hb⟩; have HE := Lib.hid (HL0.out.trans (hb.mono HL0.out.size))
    clear hb; go_wp2_with fail
    go_ret; exact ⟨rfl, HE.out⟩
  have hd1 : decide ((len : Int) ≤ 400) = true := decide_eq_true hlen
  go_enter Tryz.func12, Tryz.ntmps12
  go_upto_region 1 with (fail)
  rw [← hw0, ← hX]; clear hw0 hX; go_wp2_with fail
  refine (light_any ao len cap w0).mono ?_
  rintro e w1 ⟨rfl, hx⟩; rw [hx, hd1]
  clear hx w1; go_wp2_with fail
  refine (roll_any ao len cap w0 (by omega) (HN.out.below HL0.out)).mono ?_
  rintro e w1 ⟨rfl, hd, hb, hsz⟩; obtain ⟨b, hbb⟩ : ∃ b, b = w0.heap.size := ⟨_, rfl⟩
  rw [← hbb] at hd hb hsz ⊢
  have HL1 := Lib.hid (show Below w.heap.size w w1 from HL0.out.trans (hb.mono (by rw [hbb]; exact HL0.out.size)))
  have HD1 := Lib.hid hd; have hwb : w.heap.size ≤ b := by rw [hbb]; exact HL0.out.size
  have HX1 := Lib.hid (show Blk X #[.string s.cls, .int .i64 s.tim.weeks, .int .i64 s.tim.day, .int .i64 s.tim.start, .int .i64 s.tim.len, .string s.room] 107 w1 from HB0.out.below hb (by rw [hbb]; exact HB0.out.lt))
  have hXb : X < b := by rw [hbb]; exact HB0.out.lt
  clear hd hb hbb x0 x1 x2 x3 x4 x5 HB0 HL0; go_wp2_with fail
  refine (term68 b w1 HD1.out).mono ?_
  rintro e w2 ⟨g, t, v, u, ls, rfl, hv, hvl, ho, hll, hle, hs⟩; obtain ⟨pt, ct, hpv⟩ := RowI.slice hv
  subst hpv; have hs1 : w.heap.size ≤ w1.heap.size := HL1.out.size
  have HL2 := Lib.hid (show Below w.heap.size w w2 from HL1.out.trans (hs.but.below hwb hs1))
  have HX2 := Lib.hid (show Blk X #[.string s.cls, .int .i64 s.tim.weeks, .int .i64 s.tim.day, .int .i64 s.tim.start, .int .i64 s.tim.len, .string s.room] 107 w2 from HX1.out.but hs.but (by omega))
  have HV2 := Lib.hid hv; have HO2 := Lib.hid ho; have HLE := Lib.hid hle; clear hs hv ho hle; unfold grdVal trmVal
  obtain ⟨G, hG⟩ : ∃ x, x = w2.heap.size := ⟨_, rfl⟩
  obtain ⟨T, hT⟩ : ∃ x, x = w2.heap.size + 1 := ⟨_, rfl⟩
  obtain ⟨w3, hw3⟩ : ∃ X, X = (w2.alloc (.cells #[.int .i64 g.days, .int .i64 g.slots, .int .i64 g.begin_, .int .i64 g.mins] 90)).alloc (.cells #[.int .i64 t.first, .int .i64 t.weeks, .slice pt t.hols.length ct] 93) := ⟨_, rfl⟩
  have HK3 := Lib.hid (show Below w2.heap.size w2 w3 from by rw [hw3]; exact (below_box w2 _).trans ((below_box _ _).mono (by simp)))
  have HG3 := Lib.hid (show Blk G #[.int .i64 g.days, .int .i64 g.slots, .int .i64 g.begin_, .int .i64 g.mins] 90 w3 from by rw [hw3, hG]; exact (Blk.new w2 _ _).alloc _)
  have HT3 := Lib.hid (show Blk T #[.int .i64 t.first, .int .i64 t.weeks, .slice pt t.hols.length ct] 93 w3 from by rw [hw3, hT]; exact Blk.new' _ _ _ (by simp))
  have hXlt : X < w2.heap.size := HX2.out.lt
  have HX3 := Lib.hid (HX2.out.below HK3.out hXlt)
  have hGl : w2.heap.size ≤ G := by omega
  have hTl : w2.heap.size ≤ T := by omega
  have hGT : G ≠ T := by omega
  go_upto_region 4 with (fail)
  rw [← hw3, ← hT, ← hG]; clear hw3 hT hG; have x0 : w3.cell? ⟨X, 0, none⟩ = some (.string s.cls) := HX3.out.cell 0
  have x1 : w3.cell? ⟨X, 1, none⟩ = some (.int .i64 s.tim.weeks) := HX3.out.cell 1
  have x2 : w3.cell? ⟨X, 2, none⟩ = some (.int .i64 s.tim.day) := HX3.out.cell 2
  have x3 : w3.cell? ⟨X, 3, none⟩ = some (.int .i64 s.tim.start) := HX3.out.cell 3
  have x4 : w3.cell? ⟨X, 4, none⟩ = some (.int .i64 s.tim.len) := HX3.out.cell 4
  have x5 : w3.cell? ⟨X, 5, none⟩ = some (.string s.room) := HX3.out.cell 5
  go_upto_region 5 with (fail)
  clear x0 x1 x2 x3 x4 x5; obtain ⟨w4, hw4⟩ : ∃ X, X = w3.alloc (.cells #[.string s.cls, .int .i64 s.tim.weeks, .int .i64 s.tim.day, .int .i64 s.tim.start, .int .i64 s.tim.len, .string s.room] 107) := ⟨_, rfl⟩
  have HR4 := Lib.hid (show RowS w2.heap.size w4 (.slice (some ⟨w3.heap.size, 0, none⟩) 1 1) [s] from by rw [hw4]; exact RowS.sole w2.heap.size w3 s HK3.out.size)
  have HK4 := Lib.hid (show Below w2.heap.size w2 w4 from by rw [hw4]; exact HK3.out.trans ((below_box w3 _).mono HK3.out.size))
  have HG4 := Lib.hid (show Blk G #[.int .i64 g.days, .int .i64 g.slots, .int .i64 g.begin_, .int .i64 g.mins] 90 w4 from by rw [hw4]; exact HG3.out.alloc _)
  have HT4 := Lib.hid (show Blk T #[.int .i64 t.first, .int .i64 t.weeks, .slice pt t.hols.length ct] 93 w4 from by rw [hw4]; exact HT3.out.alloc _)
  rw [← hw4]; clear hw4 HK3 HG3 HT3 HX3; obtain ⟨pu, cu, hu⟩ := ownsRow_len HO2.out.row
  subst hu; go_wp2_with fail
  go_loopw [10, 11] (fun lv iv wr => ∃ (k : Nat) (xs : List Ses), iv = .int .i64 k ∧ k ≤ ls.length ∧ xs.length ≤ 1 + k ∧ Hid (RowS w2.heap.size wr lv xs) ∧ Hid (Below w2.heap.size w2 wr) ∧ Hid (Blk G #[.int .i64 g.days, .int .i64 g.slots, .int .i64 g.begin_, .int .i64 g.mins] 90 wr) ∧ Hid (Blk T #[.int .i64 t.first, .int .i64 t.weeks, .slice pt t.hols.length ct] 93 wr)) (fun _ iv _ => ls.length - (intOf iv).toNat)
  case atStart => exact ⟨0, [s], rfl, Nat.zero_le _, Nat.le_refl _, HR4, HK4, HG4, HT4⟩
  case round =>
    clear HR4 HK4 HG4 HT4; obtain ⟨k, xs, rfl, hk, hxl, HR, HK, HG, HT⟩ := hrel; by_cases hlt : k < ls.length
    rotate_left
    · have hki : ¬ (k : Int) < (ls.length : Int) := by omega
      have hxl5 : xs.length ≤ 5 := by omega
      obtain ⟨w5, hw5⟩ : ∃ X, X = wr := ⟨_, rfl⟩
      rw [← hw5] at HR HK HG HT ⊢
      clear hw5; obtain ⟨pr, cr, hv⟩ := HR.out.slice
      subst hv; have HV5 := Lib.hid (show RowI w1.heap.size w5 (.slice pt t.hols.length ct) t.hols from ownsRow_below HV2.out HK.out)
      have HL5 := Lib.hid (show Below w.heap.size w w5 from HL2.out.trans (HK.out.mono HL2.out.size))
      go_wp2_with fail
      go_loopw [12] (fun iv wr => ∃ i : Nat, iv = .int .i64 i ∧ i ≤ xs.length ∧ Hid (Below w5.heap.size w5 wr)) (fun iv _ => xs.length - (intOf iv).toNat)
      case atStart => exact ⟨0, rfl, Nat.zero_le _, Lib.hid (Below.refl _ _)⟩
      case round =>
        obtain ⟨i, rfl, hi, HW⟩ := hrel; by_cases hlt2 : i < xs.length
        rotate_left
        · have hii2 : ¬ (i : Int) < (xs.length : Int) := by omega
          go_wp2_with fail
          refine (HAW.out _ (HL5.out.trans (HW.out.mono HL5.out.size))).mono ?_
          rintro e w6 ⟨rfl, hb⟩; have HE := Lib.hid ((HL5.out.trans (HW.out.mono HL5.out.size)).trans (hb.mono (HL5.out.trans (HW.out.mono HL5.out.size)).size))
          clear hb; go_wp2_with fail
          go_ret; exact ⟨rfl, HE.out⟩
        have hii2 : (i : Int) < (xs.length : Int) := by omega
        have hi0 : (0 : Int) ≤ (i : Int) := by omega
        obtain ⟨D, cd, hdd, hD⟩ := HR.out.form (by omega)
        have hpr : pr = some ⟨D, 0, none⟩ := by injection hdd
        subst hpr; clear hdd; obtain ⟨y, hy⟩ : ∃ y, xs[i]? = some y := ⟨_, List.getElem?_eq_getElem hlt2⟩
        have HY := Lib.hid hy; clear hy; go_upto_region 13 with (fail)
        obtain ⟨E, hE⟩ : ∃ E, E = evOf g t y q := ⟨_, rfl⟩
        obtain ⟨bb, hbb⟩ : ∃ x, x = evB g t y := ⟨_, rfl⟩
        have hle : E.days.ex.length ≤ 4611686018427387903 ∧ E.days.xt.length ≤ 4611686018427387903 := by rw [hE]; exact ev_len g t y q
        have HEQ := Lib.hid hE; have HBQ := Lib.hid hbb; clear hE hbb; have hw5 := HW.out.size; have HGr := Lib.hid (HG.out.below HW.out HG.out.lt)
        have HTr := Lib.hid (HT.out.below HW.out HT.out.lt)
        have HRr := Lib.hid (show RowS w2.heap.size wr (.slice (some ⟨D, 0, none⟩) xs.length cr) xs from ownsRow_below HR.out HW.out)
        have HCE := Lib.hid (show ∀ W, Below wr.heap.size wr W → Calls Tryz.prog 69 #[.agg #[.int .i64 g.days, .int .i64 g.slots, .int .i64 g.begin_, .int .i64 g.mins], .agg #[.int .i64 t.first, .int .i64 t.weeks, .slice pt t.hols.length ct], .agg #[.string y.cls, .int .i64 y.tim.weeks, .int .i64 y.tim.day, .int .i64 y.tim.start, .int .i64 y.tim.len, .string y.room], .int .i64 q] W (RetE E bb W) from fun W hW => by
          have hv : RowI w1.heap.size W (.slice pt t.hols.length ct) t.hols := ownsRow_below (ownsRow_below HV5.out HW.out) hW
          obtain ⟨a1, a2, ha, hi2⟩ := hv.ints
          have ha1 : a1 = pt := by injection ha with h1 h2 h3; exact h1.symm
          subst ha1; rw [HEQ.out, HBQ.out]
          have hlw := (HL5.out.trans (HW.out.mono HL5.out.size)).trans (hW.mono (HL5.out.trans (HW.out.mono HL5.out.size)).size)
          exact ev69 g t y q a1 ct W.heap.size W (Nat.le_refl _) hi2 (by omega) (HPow.out _ hlw) (Nat.lt_of_lt_of_le HSix.out hlw.size))
        refine wp_region_tail 13 (by kernel_rfl) (fun listed a x => ∃ (l0 l1 l2 l3 l4 l5 l6 l7 l8 l9 l10 l11 l12 : Bool) (t13 t63 t64 t65 t66 t67 t68 t69 t70 t71 t72 t73 : Value), listed = #[l0, l1, l2, l3, l4, l5, l6, l7, l8, l9, l10, l11, l12, false] ∧ a = ⟨(.agg #[.string s.cls, .int .i64 s.tim.weeks, .int .i64 s.tim.day, .int .i64 s.tim.start, .int .i64 s.tim.len, .string s.room] :: .int .i64 q :: .slice ao len cap :: .pointer (some ⟨X, 0, none⟩) :: undef :: undef :: u6 :: .pointer (some ⟨G, 0, none⟩) :: .pointer (some ⟨T, 0, none⟩) :: .slice pu ls.length cu :: .slice (some ⟨D, 0, none⟩) xs.length cr :: .int .i64 k :: .int .i64 i :: t13 :: u14 :: u15 :: u16 :: .slice ao len cap :: .bool true :: .bool false :: undef :: .tuple #[.agg #[.int .i64 g.days, .int .i64 g.slots, .int .i64 g.begin_, .int .i64 g.mins], .agg #[.int .i64 t.first, .int .i64 t.weeks, .slice pt t.hols.length ct], .slice pu ls.length cu] :: .slice ao len cap :: .pointer (some ⟨b, 0, none⟩) :: .tuple #[.agg #[.int .i64 g.days, .int .i64 g.slots, .int .i64 g.begin_, .int .i64 g.mins], .agg #[.int .i64 t.first, .int .i64 t.weeks, .slice pt t.hols.length ct], .slice pu ls.length cu] :: .agg #[.int .i64 g.days, .int .i64 g.slots, .int .i64 g.begin_, .int .i64 g.mins] :: .agg #[.int .i64 t.first, .int .i64 t.weeks, .slice pt t.hols.length ct] :: .slice pu ls.length cu :: .agg #[.string s.cls, .int .i64 s.tim.weeks, .int .i64 s.tim.day, .int .i64 s.tim.start, .int .i64 s.tim.len, .string s.room] :: .slice (some ⟨w3.heap.size, 0, none⟩) 1 1 :: .int .i64 k :: .slice pu ls.length cu :: .int .i64 ls.length :: .bool false :: u34 :: u35 :: u36 :: u37 :: u38 :: u39 :: u40 :: u41 :: u42 :: u43 :: u44 :: u45 :: u46 :: u47 :: u48 :: u49 :: u50 :: u51 :: u52 :: u53 :: u54 :: u55 :: u56 :: .int .i64 i :: .slice (some ⟨D, 0, none⟩) xs.length cr :: .int .i64 xs.length :: .bool true :: u61 :: u62 :: t63 :: t64 :: t65 :: t66 :: t67 :: t68 :: t69 :: t70 :: t71 :: t72 :: t73 :: u74 :: u75 :: u76 :: u77 :: u78 :: u79 :: u80 :: u81 :: u82 :: u83 :: u84 :: u85 :: u86 :: u87 :: u88 :: u89 :: u90 :: u91 :: u92 :: u93 :: undef :: []).toArray, []⟩ ∧ Hid (l0 = true → t64 = .agg #[.int .i64 g.days, .int .i64 g.slots, .int .i64 g.begin_, .int .i64 g.mins]) ∧ Hid (l1 = true → t65 = .agg #[.int .i64 t.first, .int .i64 t.weeks, .slice pt t.hols.length ct]) ∧ Hid (l2 = true → t66 = .slice (some ⟨D, 0, none⟩) xs.length cr) ∧ Hid (l3 = true → t67 = .int .i64 i) ∧ Hid (l4 = true → t68 = .pointer (some ⟨D, i * 6, none⟩)) ∧ Hid (l5 = true → t69 = .agg #[.string y.cls, .int .i64 y.tim.weeks, .int .i64 y.tim.day, .int .i64 y.tim.start, .int .i64 y.tim.len, .string y.room]) ∧ Hid (l6 = true → t70 = .int .i64 q) ∧ Hid (l7 = true → l8 = false → ∃ (p : Option Addr) (pp : Option Addr) (ka : Nat) (kb : Nat), t71 = .tuple #[.agg #[.string E.uid, .int .i64 E.seq, .bool E.canc, .int .i64 E.days.first, .int .i64 E.days.last, .int .i64 E.days.every, .int .i64 E.days.wd, .slice p E.days.ex.length ka, .slice pp E.days.xt.length kb, .int .i64 E.start, .int .i64 E.mins, .string E.summ, .string E.loc], .bool bb] ∧ RowI wr.heap.size x (.slice p E.days.ex.length ka) E.days.ex ∧ RowI wr.heap.size x (.slice pp E.days.xt.length kb) E.days.xt) ∧ Hid (l8 = true → ∃ (p : Option Addr) (pp : Option Addr) (ka : Nat) (kb : Nat), t63 = .tuple #[.agg #[.string E.uid, .int .i64 E.seq, .bool E.canc, .int .i64 E.days.first, .int .i64 E.days.last, .int .i64 E.days.every, .int .i64 E.days.wd, .slice p E.days.ex.length ka, .slice pp E.days.xt.length kb, .int .i64 E.start, .int .i64 E.mins, .string E.summ, .string E.loc], .bool bb] ∧ RowI wr.heap.size x (.slice p E.days.ex.length ka) E.days.ex ∧ RowI wr.heap.size x (.slice pp E.days.xt.length kb) E.days.xt) ∧ Hid (l9 = true → l12 = false → ∃ (p : Option Addr) (pp : Option Addr) (ka : Nat) (kb : Nat), t72 = .agg #[.string E.uid, .int .i64 E.seq, .bool E.canc, .int .i64 E.days.first, .int .i64 E.days.last, .int .i64 E.days.every, .int .i64 E.days.wd, .slice p E.days.ex.length ka, .slice pp E.days.xt.length kb, .int .i64 E.start, .int .i64 E.mins, .string E.summ, .string E.loc] ∧ RowI wr.heap.size x (.slice p E.days.ex.length ka) E.days.ex ∧ RowI wr.heap.size x (.slice pp E.days.xt.length kb) E.days.xt) ∧ Hid (l10 = true → t73 = .bool bb) ∧ Hid (l11 = true → l12 = false → ∃ (S : Nat), t13 = .pointer (some ⟨S, 0, none⟩) ∧ wr.heap.size ≤ S ∧ Blk S #[.string ⟨#[]⟩, .int .i64 0, .bool false, .int .i64 0, .int .i64 0, .int .i64 0, .int .i64 0, .slice none 0 0, .slice none 0 0, .int .i64 0, .int .i64 0, .string ⟨#[]⟩, .string ⟨#[]⟩] 82 x) ∧ Hid (l12 = true → ∃ (S : Nat) (p : Option Addr) (pp : Option Addr) (ka : Nat) (kb : Nat), t13 = .pointer (some ⟨S, 0, none⟩) ∧ wr.heap.size ≤ S ∧ Blk S #[.string E.uid, .int .i64 E.seq, .bool E.canc, .int .i64 E.days.first, .int .i64 E.days.last, .int .i64 E.days.every, .int .i64 E.days.wd, .slice p E.days.ex.length ka, .slice pp E.days.xt.length kb, .int .i64 E.start, .int .i64 E.mins, .string E.summ, .string E.loc] 82 x ∧ RowI wr.heap.size x (.slice p E.days.ex.length ka) E.days.ex ∧ RowI wr.heap.size x (.slice pp E.days.xt.length kb) E.days.xt ∧ l11 = true) ∧ Hid (Made wr x)) (by decide) (by kernel_rfl) (by kernel_rfl) ?_ ?_ ?_ ?_
        · exact ⟨false, false, false, false, false, false, false, false, false, false, false, false, false, _, _, _, _, _, _, _, _, _, _, _, _, rfl, rfl, Lib.hid (fun h => by cases h), Lib.hid (fun h => by cases h), Lib.hid (fun h => by cases h), Lib.hid (fun h => by cases h), Lib.hid (fun h => by cases h), Lib.hid (fun h => by cases h), Lib.hid (fun h => by cases h), Lib.hid (fun h => by cases h), Lib.hid (fun h => by cases h), Lib.hid (fun h => by cases h), Lib.hid (fun h => by cases h), Lib.hid (fun h => by cases h), Lib.hid (fun h => by cases h), Lib.hid (Made.start wr)⟩
        · intro listed a x hj; obtain ⟨l0, hj⟩ := hj
          obtain ⟨l1, hj⟩ := hj; obtain ⟨l2, hj⟩ := hj; obtain ⟨l3, hj⟩ := hj; obtain ⟨l4, hj⟩ := hj; obtain ⟨l5, hj⟩ := hj; obtain ⟨l6, hj⟩ := hj; obtain ⟨l7, hj⟩ := hj; obtain ⟨l8, hj⟩ := hj; obtain ⟨l9, hj⟩ := hj; obtain ⟨l10, hj⟩ := hj; obtain ⟨l11, hj⟩ := hj; obtain ⟨l12, hj⟩ := hj; obtain ⟨t13, hj⟩ := hj; obtain ⟨t63, hj⟩ := hj; obtain ⟨t64, hj⟩ := hj; obtain ⟨t65, hj⟩ := hj; obtain ⟨t66, hj⟩ := hj; obtain ⟨t67, hj⟩ := hj; obtain ⟨t68, hj⟩ := hj; obtain ⟨t69, hj⟩ := hj; obtain ⟨t70, hj⟩ := hj; obtain ⟨t71, hj⟩ := hj; obtain ⟨t72, hj⟩ := hj; obtain ⟨t73, hj⟩ := hj; obtain ⟨h1, -⟩ := hj; subst h1; exact ⟨rfl, fun k h1 h2 => by (have h2 : k < 14 := h2); obtain rfl : k = 13 := (by omega); rfl⟩
        · intro listed a x i hj hlt hu haf; obtain ⟨l0, hj⟩ := hj
          obtain ⟨l1, hj⟩ := hj; obtain ⟨l2, hj⟩ := hj; obtain ⟨l3, hj⟩ := hj; obtain ⟨l4, hj⟩ := hj; obtain ⟨l5, hj⟩ := hj; obtain ⟨l6, hj⟩ := hj; obtain ⟨l7, hj⟩ := hj; obtain ⟨l8, hj⟩ := hj; obtain ⟨l9, hj⟩ := hj; obtain ⟨l10, hj⟩ := hj; obtain ⟨l11, hj⟩ := hj; obtain ⟨l12, hj⟩ := hj; obtain ⟨t13, hj⟩ := hj; obtain ⟨t63, hj⟩ := hj; obtain ⟨t64, hj⟩ := hj; obtain ⟨t65, hj⟩ := hj; obtain ⟨t66, hj⟩ := hj; obtain ⟨t67, hj⟩ := hj; obtain ⟨t68, hj⟩ := hj; obtain ⟨t69, hj⟩ := hj; obtain ⟨t70, hj⟩ := hj; obtain ⟨t71, hj⟩ := hj; obtain ⟨t72, hj⟩ := hj; obtain ⟨t73, hj⟩ := hj; obtain ⟨hl_, hj⟩ := hj; obtain ⟨ha_, hj⟩ := hj; obtain ⟨H0, hj⟩ := hj; obtain ⟨H1, hj⟩ := hj; obtain ⟨H2, hj⟩ := hj; obtain ⟨H3, hj⟩ := hj; obtain ⟨H4, hj⟩ := hj; obtain ⟨H5, hj⟩ := hj; obtain ⟨H6, hj⟩ := hj; obtain ⟨H7, hj⟩ := hj; obtain ⟨H8, hj⟩ := hj; obtain ⟨H9, hj⟩ := hj; obtain ⟨H10, hj⟩ := hj; obtain ⟨H11, hj⟩ := hj; obtain ⟨H12, hj⟩ := hj; have HS := hj; clear hj; subst hl_; subst ha_; rcases (show ∀ i : Nat, i < 13 → (i = 0 ∨ i = 1 ∨ i = 2 ∨ i = 3 ∨ i = 4 ∨ i = 5 ∨ i = 6 ∨ i = 7 ∨ i = 8 ∨ i = 9 ∨ i = 10 ∨ i = 11 ∨ i = 12) by decide) i hlt with rfl | rfl | rfl | rfl | rfl | rfl | rfl | rfl | rfl | rfl | rfl | rfl | rfl
          · have haf := haf _ rfl; clear haf
            have hu : l0 = false := hu
            have hcG0 : x.cell? ⟨G, 0, none⟩ = some (.int .i64 g.days) := (HGr.out.below HS.out.below HGr.out.lt).cell 0
            have hcG1 : x.cell? ⟨G, 1, none⟩ = some (.int .i64 g.slots) := (HGr.out.below HS.out.below HGr.out.lt).cell 1
            have hcG2 : x.cell? ⟨G, 2, none⟩ = some (.int .i64 g.begin_) := (HGr.out.below HS.out.below HGr.out.lt).cell 2
            have hcG3 : x.cell? ⟨G, 3, none⟩ = some (.int .i64 g.mins) := (HGr.out.below HS.out.below HGr.out.lt).cell 3
            refine wpOp_of_list_any rfl fun QQ hQ => ?_
            have hQQ := Lib.hid hQ; clear hQ; simp only [List.getElem_toArray, List.getElem_cons_zero]
            go_wp2_with fail
            exact hQQ.out _ _ ⟨true, l1, l2, l3, l4, l5, l6, l7, l8, l9, l10, l11, l12, _, _, _, _, _, _, _, _, _, _, _, _, rfl, rfl, Lib.hid (fun _ => rfl), H1, H2, H3, H4, H5, H6, H7, H8, H9, H10, H11, H12, HS⟩
          · have haf := haf _ rfl; clear haf
            have hu : l1 = false := hu
            have hcT0 : x.cell? ⟨T, 0, none⟩ = some (.int .i64 t.first) := (HTr.out.below HS.out.below HTr.out.lt).cell 0
            have hcT1 : x.cell? ⟨T, 1, none⟩ = some (.int .i64 t.weeks) := (HTr.out.below HS.out.below HTr.out.lt).cell 1
            have hcT2 : x.cell? ⟨T, 2, none⟩ = some (.slice pt t.hols.length ct) := (HTr.out.below HS.out.below HTr.out.lt).cell 2
            refine wpOp_of_list_any rfl fun QQ hQ => ?_
            have hQQ := Lib.hid hQ; clear hQ; simp only [List.getElem_toArray, List.getElem_cons_zero, List.getElem_cons_succ]
            go_wp2_with fail
            exact hQQ.out _ _ ⟨l0, true, l2, l3, l4, l5, l6, l7, l8, l9, l10, l11, l12, _, _, _, _, _, _, _, _, _, _, _, _, rfl, rfl, H0, Lib.hid (fun _ => rfl), H2, H3, H4, H5, H6, H7, H8, H9, H10, H11, H12, HS⟩
          · have haf := haf _ rfl; clear haf
            have hu : l2 = false := hu
            refine wpOp_of_list_any rfl fun QQ hQ => ?_
            have hQQ := Lib.hid hQ; clear hQ; simp only [List.getElem_toArray, List.getElem_cons_zero, List.getElem_cons_succ]
            go_wp2_with fail
            exact hQQ.out _ _ ⟨l0, l1, true, l3, l4, l5, l6, l7, l8, l9, l10, l11, l12, _, _, _, _, _, _, _, _, _, _, _, _, rfl, rfl, H0, H1, Lib.hid (fun _ => rfl), H3, H4, H5, H6, H7, H8, H9, H10, H11, H12, HS⟩
          · have haf := haf _ rfl; clear haf
            have hu : l3 = false := hu
            refine wpOp_of_list_any rfl fun QQ hQ => ?_
            have hQQ := Lib.hid hQ; clear hQ; simp only [List.getElem_toArray, List.getElem_cons_zero, List.getElem_cons_succ]
            go_wp2_with fail
            exact hQQ.out _ _ ⟨l0, l1, l2, true, l4, l5, l6, l7, l8, l9, l10, l11, l12, _, _, _, _, _, _, _, _, _, _, _, _, rfl, rfl, H0, H1, H2, Lib.hid (fun _ => rfl), H4, H5, H6, H7, H8, H9, H10, H11, H12, HS⟩
          · have haf := haf _ rfl; have q2 : l2 = true := haf ⟨2, Go.Ground.data⟩ (by simp) rfl
            have q3 : l3 = true := haf ⟨3, Go.Ground.data⟩ (by simp) rfl
            clear haf; have hu : l4 = false := hu
            have e2 := (H2.out q2)
            subst e2; clear H2; have e3 := (H3.out q3)
            subst e3; clear H3; refine wpOp_of_list_any rfl fun QQ hQ => ?_
            have hQQ := Lib.hid hQ; clear hQ; simp only [List.getElem_toArray, List.getElem_cons_zero, List.getElem_cons_succ]
            go_wp2_with fail
            exact hQQ.out _ _ ⟨l0, l1, l2, l3, true, l5, l6, l7, l8, l9, l10, l11, l12, _, _, _, _, _, _, _, _, _, _, _, _, rfl, rfl, H0, H1, Lib.hid (fun _ => rfl), Lib.hid (fun _ => rfl), Lib.hid (fun _ => rfl), H5, H6, H7, H8, H9, H10, H11, H12, HS⟩
          · have haf := haf _ rfl; have q4 : l4 = true := haf ⟨4, Go.Ground.data⟩ (by simp) rfl
            clear haf; have hu : l5 = false := hu
            have e4 := (H4.out q4)
            subst e4; clear H4; have hy0 : x.cell? ⟨D, i * 6, none⟩ = some (.string y.cls) := (show RowS w2.heap.size x (.slice (some ⟨D, 0, none⟩) xs.length cr) xs from ownsRow_below HRr.out HS.out.below).cell i 0 y _ HY.out (by decide) rfl
            have hy1 : x.cell? ⟨D, i * 6 + 1, none⟩ = some (.int .i64 y.tim.weeks) := (show RowS w2.heap.size x (.slice (some ⟨D, 0, none⟩) xs.length cr) xs from ownsRow_below HRr.out HS.out.below).cell i 1 y _ HY.out (by decide) rfl
            have hy2 : x.cell? ⟨D, i * 6 + 2, none⟩ = some (.int .i64 y.tim.day) := (show RowS w2.heap.size x (.slice (some ⟨D, 0, none⟩) xs.length cr) xs from ownsRow_below HRr.out HS.out.below).cell i 2 y _ HY.out (by decide) rfl
            have hy3 : x.cell? ⟨D, i * 6 + 3, none⟩ = some (.int .i64 y.tim.start) := (show RowS w2.heap.size x (.slice (some ⟨D, 0, none⟩) xs.length cr) xs from ownsRow_below HRr.out HS.out.below).cell i 3 y _ HY.out (by decide) rfl
            have hy4 : x.cell? ⟨D, i * 6 + 4, none⟩ = some (.int .i64 y.tim.len) := (show RowS w2.heap.size x (.slice (some ⟨D, 0, none⟩) xs.length cr) xs from ownsRow_below HRr.out HS.out.below).cell i 4 y _ HY.out (by decide) rfl
            have hy5 : x.cell? ⟨D, i * 6 + 5, none⟩ = some (.string y.room) := (show RowS w2.heap.size x (.slice (some ⟨D, 0, none⟩) xs.length cr) xs from ownsRow_below HRr.out HS.out.below).cell i 5 y _ HY.out (by decide) rfl
            refine wpOp_of_list_any rfl fun QQ hQ => ?_
            have hQQ := Lib.hid hQ; clear hQ; simp only [List.getElem_toArray, List.getElem_cons_zero, List.getElem_cons_succ]
            go_wp2_with fail
            exact hQQ.out _ _ ⟨l0, l1, l2, l3, l4, true, l6, l7, l8, l9, l10, l11, l12, _, _, _, _, _, _, _, _, _, _, _, _, rfl, rfl, H0, H1, H2, H3, Lib.hid (fun _ => rfl), Lib.hid (fun _ => rfl), H6, H7, H8, H9, H10, H11, H12, HS⟩
          · have haf := haf _ rfl; clear haf
            have hu : l6 = false := hu
            refine wpOp_of_list_any rfl fun QQ hQ => ?_
            have hQQ := Lib.hid hQ; clear hQ; simp only [List.getElem_toArray, List.getElem_cons_zero, List.getElem_cons_succ]
            go_wp2_with fail
            exact hQQ.out _ _ ⟨l0, l1, l2, l3, l4, l5, true, l7, l8, l9, l10, l11, l12, _, _, _, _, _, _, _, _, _, _, _, _, rfl, rfl, H0, H1, H2, H3, H4, H5, Lib.hid (fun _ => rfl), H7, H8, H9, H10, H11, H12, HS⟩
          · have haf := haf _ rfl; have q0 : l0 = true := haf ⟨0, Go.Ground.data⟩ (by simp) rfl
            have q1 : l1 = true := haf ⟨1, Go.Ground.data⟩ (by simp) rfl
            have q5 : l5 = true := haf ⟨5, Go.Ground.data⟩ (by simp) rfl
            have q6 : l6 = true := haf ⟨6, Go.Ground.data⟩ (by simp) rfl
            clear haf; have hu : l7 = false := hu
            have e0 := (H0.out q0)
            subst e0; clear H0; have e1 := (H1.out q1)
            subst e1; clear H1; have e5 := (H5.out q5)
            subst e5; clear H5; have e6 := (H6.out q6)
            subst e6; clear H6; refine wpOp_of_list_any rfl fun QQ hQ => ?_
            have hQQ := Lib.hid hQ; clear hQ; simp only [List.getElem_toArray, List.getElem_cons_zero, List.getElem_cons_succ]
            go_wp2_with fail
            refine (HCE.out x HS.out.below).mono ?_
            rintro e x1 ⟨p, pp, ka, kb, rfl, hx, hy, hb1⟩; have hk := Kept.made (B := wr.heap.size) hb1
            have HS1 := Lib.hid (HS.out.then hb1)
            have HX1 := Lib.hid (ownsRow_mono hx HS.out.below.size)
            have HY1 := Lib.hid (ownsRow_mono hy HS.out.below.size)
            clear hb1 hx hy; unfold evVal evCells
            go_wp2_with fail
            exact hQQ.out _ _ ⟨l0, l1, l2, l3, l4, l5, l6, true, l8, l9, l10, l11, l12, _, _, _, _, _, _, _, _, _, _, _, _, rfl, rfl, Lib.hid (fun _ => rfl), Lib.hid (fun _ => rfl), H2, H3, H4, Lib.hid (fun _ => rfl), Lib.hid (fun _ => rfl), Lib.hid (fun _ _ => ⟨p, pp, ka, kb, rfl, HX1.out, HY1.out⟩), Lib.hid (fun h => (by obtain ⟨p, pp, ka, kb, e, c0, c1⟩ := H8.out h; exact ⟨p, pp, ka, kb, e, (row_kept c0 hk), (row_kept c1 hk)⟩)), Lib.hid (fun h h2 => (by obtain ⟨p, pp, ka, kb, e, c0, c1⟩ := H9.out h h2; exact ⟨p, pp, ka, kb, e, (row_kept c0 hk), (row_kept c1 hk)⟩)), H10, Lib.hid (fun h h2 => (by obtain ⟨S, e, c0, c1⟩ := H11.out h h2; exact ⟨S, e, c0, (hk _ _ _ c0 c1)⟩)), Lib.hid (fun h => (by obtain ⟨S, p, pp, ka, kb, e, c0, c1, c2, c3, c4⟩ := H12.out h; exact ⟨S, p, pp, ka, kb, e, c0, (hk _ _ _ c0 c1), (row_kept c2 hk), (row_kept c3 hk), c4⟩)), HS1⟩
          · have haf := haf _ rfl; have q7 : l7 = true := haf ⟨7, Go.Ground.data⟩ (by simp) rfl
            clear haf; have hu : l8 = false := hu
            obtain ⟨p7, pp7, ka7, kb7, e7, c7_0, c7_1⟩ := (H7.out q7 hu)
            subst e7; clear H7; refine wpOp_of_list_any rfl fun QQ hQ => ?_
            have hQQ := Lib.hid hQ; clear hQ; simp only [List.getElem_toArray, List.getElem_cons_zero, List.getElem_cons_succ]
            go_wp2_with fail
            exact hQQ.out _ _ ⟨l0, l1, l2, l3, l4, l5, l6, l7, true, l9, l10, l11, l12, _, _, _, _, _, _, _, _, _, _, _, _, rfl, rfl, H0, H1, H2, H3, H4, H5, H6, Lib.hid (fun _ h => by cases h), Lib.hid (fun _ => ⟨_, _, _, _, rfl, c7_0, c7_1⟩), H9, H10, H11, H12, HS⟩
          · have haf := haf _ rfl; have q8 : l8 = true := haf ⟨8, Go.Ground.data⟩ (by simp) rfl
            clear haf; have hu : l9 = false := hu
            obtain ⟨p8, pp8, ka8, kb8, e8, c8_0, c8_1⟩ := (H8.out q8)
            subst e8; clear H8; refine wpOp_of_list_any rfl fun QQ hQ => ?_
            have hQQ := Lib.hid hQ; clear hQ; simp only [List.getElem_toArray, List.getElem_cons_zero, List.getElem_cons_succ]
            go_wp2_with fail
            exact hQQ.out _ _ ⟨l0, l1, l2, l3, l4, l5, l6, l7, l8, true, l10, l11, l12, _, _, _, _, _, _, _, _, _, _, _, _, rfl, rfl, H0, H1, H2, H3, H4, H5, H6, H7, Lib.hid (fun _ => ⟨p8, pp8, ka8, kb8, rfl, c8_0, c8_1⟩), Lib.hid (fun _ _ => ⟨_, _, _, _, rfl, c8_0, c8_1⟩), H10, H11, H12, HS⟩
          · have haf := haf _ rfl; have q8 : l8 = true := haf ⟨8, Go.Ground.data⟩ (by simp) rfl
            clear haf; have hu : l10 = false := hu
            obtain ⟨p8, pp8, ka8, kb8, e8, c8_0, c8_1⟩ := (H8.out q8)
            subst e8; clear H8; refine wpOp_of_list_any rfl fun QQ hQ => ?_
            have hQQ := Lib.hid hQ; clear hQ; simp only [List.getElem_toArray, List.getElem_cons_zero, List.getElem_cons_succ]
            go_wp2_with fail
            exact hQQ.out _ _ ⟨l0, l1, l2, l3, l4, l5, l6, l7, l8, l9, true, l11, l12, _, _, _, _, _, _, _, _, _, _, _, _, rfl, rfl, H0, H1, H2, H3, H4, H5, H6, H7, Lib.hid (fun _ => ⟨p8, pp8, ka8, kb8, rfl, c8_0, c8_1⟩), H9, Lib.hid (fun _ => rfl), H11, H12, HS⟩
          · have haf := haf _ rfl; clear haf
            have hu : l11 = false := hu
            refine wpOp_of_list_any rfl fun QQ hQ => ?_
            have hQQ := Lib.hid hQ; clear hQ; simp only [List.getElem_toArray, List.getElem_cons_zero, List.getElem_cons_succ]
            go_wp2_with fail
            exact hQQ.out _ _ ⟨l0, l1, l2, l3, l4, l5, l6, l7, l8, l9, l10, true, l12, _, _, _, _, _, _, _, _, _, _, _, _, rfl, rfl, H0, H1, H2, H3, H4, H5, H6, Lib.hid (fun h h2 => (by obtain ⟨p, pp, ka, kb, e, c0, c1⟩ := H7.out h h2; exact ⟨p, pp, ka, kb, e, (row_kept c0 (Kept.alloc _ x _)), (row_kept c1 (Kept.alloc _ x _))⟩)), Lib.hid (fun h => (by obtain ⟨p, pp, ka, kb, e, c0, c1⟩ := H8.out h; exact ⟨p, pp, ka, kb, e, (row_kept c0 (Kept.alloc _ x _)), (row_kept c1 (Kept.alloc _ x _))⟩)), Lib.hid (fun h h2 => (by obtain ⟨p, pp, ka, kb, e, c0, c1⟩ := H9.out h h2; exact ⟨p, pp, ka, kb, e, (row_kept c0 (Kept.alloc _ x _)), (row_kept c1 (Kept.alloc _ x _))⟩)), H10, Lib.hid (fun _ _ => ⟨_, rfl, HS.out.below.size, Blk.new x _ _⟩), Lib.hid (fun h => absurd (hu.symm.trans (by obtain ⟨S, p, pp, ka, kb, e, c0, c1, c2, c3, c4⟩ := H12.out h; exact c4)) (by decide)), Lib.hid (HS.out.alloc _)⟩
          · have haf := haf _ rfl; have q11 : l11 = true := haf ⟨11, Go.Ground.data⟩ (by simp) rfl
            have q9 : l9 = true := haf ⟨9, Go.Ground.data⟩ (by simp) rfl
            clear haf; have hu : l12 = false := hu
            obtain ⟨S11, e11, c11_0, c11_1⟩ := (H11.out q11 hu)
            subst e11; clear H11; obtain ⟨p9, pp9, ka9, kb9, e9, c9_0, c9_1⟩ := (H9.out q9 hu)
            subst e9; clear H9; have HZ := Lib.hid c11_1; have f0 := HZ.out.frozen 0; have f1 := HZ.out.frozen 1; have f2 := HZ.out.frozen 2; have f3 := HZ.out.frozen 3; have f4 := HZ.out.frozen 4; have f5 := HZ.out.frozen 5; have f6 := HZ.out.frozen 6; have f7 := HZ.out.frozen 7; have f8 := HZ.out.frozen 8; have f9 := HZ.out.frozen 9; have f10 := HZ.out.frozen 10; have f11 := HZ.out.frozen 11; have f12 := HZ.out.frozen 12; have y0 := HZ.out.cell 0; have y1 := HZ.out.cell 1; have y2 := HZ.out.cell 2; have y3 := HZ.out.cell 3; have y4 := HZ.out.cell 4; have y5 := HZ.out.cell 5; have y6 := HZ.out.cell 6; have y7 := HZ.out.cell 7; have y8 := HZ.out.cell 8; have y9 := HZ.out.cell 9; have y10 := HZ.out.cell 10; have y11 := HZ.out.cell 11; have y12 := HZ.out.cell 12; simp only [List.getElem?_toArray, List.getElem?_cons_zero, List.getElem?_cons_succ] at y0 y1 y2 y3 y4 y5 y6 y7 y8 y9 y10 y11 y12
            obtain ⟨Y, hY, hBk, hE⟩ := fill13 c11_1 rfl HS.out.below c11_0 (.string E.uid) (.int .i64 E.seq) (.bool E.canc) (.int .i64 E.days.first) (.int .i64 E.days.last) (.int .i64 E.days.every) (.int .i64 E.days.wd) (.slice p9 E.days.ex.length ka9) (.slice pp9 E.days.xt.length kb9) (.int .i64 E.start) (.int .i64 E.mins) (.string E.summ) (.string E.loc)
            have HRW := Lib.hid (show ∀ (v : Value) (zs : List Int), RowI wr.heap.size x v zs → RowI wr.heap.size Y v zs from fun v zs h => by rw [hY]; exact row_setAll (by decide) [.string E.uid, .int .i64 E.seq, .bool E.canc, .int .i64 E.days.first, .int .i64 E.days.last, .int .i64 E.days.every, .int .i64 E.days.wd, .slice p9 E.days.ex.length ka9, .slice pp9 E.days.xt.length kb9, .int .i64 E.start, .int .i64 E.mins, .string E.summ, .string E.loc] 0 x _ h HZ.out)
            have HX1 := Lib.hid (HRW.out _ _ c9_0)
            have HY1 := Lib.hid (HRW.out _ _ c9_1)
            have HBk := Lib.hid hBk; have HS1 := Lib.hid (show Made wr Y from ⟨hE⟩)
            simp only [setAll, Nat.zero_add, Nat.reduceAdd] at hY
            clear hBk hE; refine wpOp_of_list_any rfl fun QQ hQ => ?_
            have hQQ := Lib.hid hQ; clear hQ; simp only [List.getElem_toArray, List.getElem_cons_zero, List.getElem_cons_succ]
            go_wp2_with fail
            rw [← hY]; clear hY; exact hQQ.out _ _ ⟨l0, l1, l2, l3, l4, l5, l6, l7, l8, l9, l10, l11, true, _, _, _, _, _, _, _, _, _, _, _, _, rfl, rfl, H0, H1, H2, H3, H4, H5, H6, Lib.hid (fun h h2 => (by obtain ⟨p, pp, ka, kb, e, c0, c1⟩ := H7.out h h2; exact ⟨p, pp, ka, kb, e, (HRW.out _ _ c0), (HRW.out _ _ c1)⟩)), Lib.hid (fun h => (by obtain ⟨p, pp, ka, kb, e, c0, c1⟩ := H8.out h; exact ⟨p, pp, ka, kb, e, (HRW.out _ _ c0), (HRW.out _ _ c1)⟩)), Lib.hid (fun _ h => by cases h), H10, Lib.hid (fun _ h => by cases h), Lib.hid (fun _ => ⟨_, _, _, _, _, rfl, c11_0, HBk.out, HX1.out, HY1.out, q11⟩), HS1⟩
        · intro listed a x hj hall; obtain ⟨l0, hj⟩ := hj
          obtain ⟨l1, hj⟩ := hj; obtain ⟨l2, hj⟩ := hj; obtain ⟨l3, hj⟩ := hj; obtain ⟨l4, hj⟩ := hj; obtain ⟨l5, hj⟩ := hj; obtain ⟨l6, hj⟩ := hj; obtain ⟨l7, hj⟩ := hj; obtain ⟨l8, hj⟩ := hj; obtain ⟨l9, hj⟩ := hj; obtain ⟨l10, hj⟩ := hj; obtain ⟨l11, hj⟩ := hj; obtain ⟨l12, hj⟩ := hj; obtain ⟨t13, hj⟩ := hj; obtain ⟨t63, hj⟩ := hj; obtain ⟨t64, hj⟩ := hj; obtain ⟨t65, hj⟩ := hj; obtain ⟨t66, hj⟩ := hj; obtain ⟨t67, hj⟩ := hj; obtain ⟨t68, hj⟩ := hj; obtain ⟨t69, hj⟩ := hj; obtain ⟨t70, hj⟩ := hj; obtain ⟨t71, hj⟩ := hj; obtain ⟨t72, hj⟩ := hj; obtain ⟨t73, hj⟩ := hj; obtain ⟨hl_, hj⟩ := hj; obtain ⟨ha_, hj⟩ := hj; obtain ⟨H0, hj⟩ := hj; obtain ⟨H1, hj⟩ := hj; obtain ⟨H2, hj⟩ := hj; obtain ⟨H3, hj⟩ := hj; obtain ⟨H4, hj⟩ := hj; obtain ⟨H5, hj⟩ := hj; obtain ⟨H6, hj⟩ := hj; obtain ⟨H7, hj⟩ := hj; obtain ⟨H8, hj⟩ := hj; obtain ⟨H9, hj⟩ := hj; obtain ⟨H10, hj⟩ := hj; obtain ⟨H11, hj⟩ := hj; obtain ⟨H12, hj⟩ := hj; have HS := hj; clear hj; subst hl_; subst ha_; have q10 : l10 = true := hall 10 (by omega)
          have q12 : l12 = true := hall 12 (by omega)
          clear hall; have e10 := (H10.out q10)
          subst e10; obtain ⟨S12, p12, pp12, ka12, kb12, e12, c12_0, c12_1, c12_2, c12_3, c12_4⟩ := (H12.out q12)
          subst e12; refine tail_any (fun a x => ∃ (t13 t14 t63 t64 t65 t66 t67 t68 t69 t70 t71 t72 t73 : Value), a = ⟨(.agg #[.string s.cls, .int .i64 s.tim.weeks, .int .i64 s.tim.day, .int .i64 s.tim.start, .int .i64 s.tim.len, .string s.room] :: .int .i64 q :: .slice ao len cap :: .pointer (some ⟨X, 0, none⟩) :: undef :: undef :: u6 :: .pointer (some ⟨G, 0, none⟩) :: .pointer (some ⟨T, 0, none⟩) :: .slice pu ls.length cu :: .slice (some ⟨D, 0, none⟩) xs.length cr :: .int .i64 k :: .int .i64 i :: t13 :: t14 :: u15 :: u16 :: .slice ao len cap :: .bool true :: .bool false :: undef :: .tuple #[.agg #[.int .i64 g.days, .int .i64 g.slots, .int .i64 g.begin_, .int .i64 g.mins], .agg #[.int .i64 t.first, .int .i64 t.weeks, .slice pt t.hols.length ct], .slice pu ls.length cu] :: .slice ao len cap :: .pointer (some ⟨b, 0, none⟩) :: .tuple #[.agg #[.int .i64 g.days, .int .i64 g.slots, .int .i64 g.begin_, .int .i64 g.mins], .agg #[.int .i64 t.first, .int .i64 t.weeks, .slice pt t.hols.length ct], .slice pu ls.length cu] :: .agg #[.int .i64 g.days, .int .i64 g.slots, .int .i64 g.begin_, .int .i64 g.mins] :: .agg #[.int .i64 t.first, .int .i64 t.weeks, .slice pt t.hols.length ct] :: .slice pu ls.length cu :: .agg #[.string s.cls, .int .i64 s.tim.weeks, .int .i64 s.tim.day, .int .i64 s.tim.start, .int .i64 s.tim.len, .string s.room] :: .slice (some ⟨w3.heap.size, 0, none⟩) 1 1 :: .int .i64 k :: .slice pu ls.length cu :: .int .i64 ls.length :: .bool false :: u34 :: u35 :: u36 :: u37 :: u38 :: u39 :: u40 :: u41 :: u42 :: u43 :: u44 :: u45 :: u46 :: u47 :: u48 :: u49 :: u50 :: u51 :: u52 :: u53 :: u54 :: u55 :: u56 :: .int .i64 i :: .slice (some ⟨D, 0, none⟩) xs.length cr :: .int .i64 xs.length :: .bool true :: u61 :: u62 :: t63 :: t64 :: t65 :: t66 :: t67 :: t68 :: t69 :: t70 :: t71 :: t72 :: t73 :: u74 :: u75 :: u76 :: u77 :: u78 :: u79 :: u80 :: u81 :: u82 :: u83 :: u84 :: u85 :: u86 :: u87 :: u88 :: u89 :: u90 :: u91 :: u92 :: u93 :: undef :: []).toArray, []⟩ ∧ ∃ (S : Nat) (p pp : Option Addr) (ka kb : Nat), t13 = .pointer (some ⟨S, 0, none⟩) ∧ t14 = .bool bb ∧ Blk S #[.string E.uid, .int .i64 E.seq, .bool E.canc, .int .i64 E.days.first, .int .i64 E.days.last, .int .i64 E.days.every, .int .i64 E.days.wd, .slice p E.days.ex.length ka, .slice pp E.days.xt.length kb, .int .i64 E.start, .int .i64 E.mins, .string E.summ, .string E.loc] 82 x ∧ RowI wr.heap.size x (.slice p E.days.ex.length ka) E.days.ex ∧ RowI wr.heap.size x (.slice pp E.days.xt.length kb) E.days.xt ∧ Below wr.heap.size wr x) ?_ fun QQ hQ => ?_
          · intro a x hpost; obtain ⟨t13, hpost⟩ := hpost
            obtain ⟨t14, hpost⟩ := hpost; obtain ⟨t63, hpost⟩ := hpost; obtain ⟨t64, hpost⟩ := hpost; obtain ⟨t65, hpost⟩ := hpost; obtain ⟨t66, hpost⟩ := hpost; obtain ⟨t67, hpost⟩ := hpost; obtain ⟨t68, hpost⟩ := hpost; obtain ⟨t69, hpost⟩ := hpost; obtain ⟨t70, hpost⟩ := hpost; obtain ⟨t71, hpost⟩ := hpost; obtain ⟨t72, hpost⟩ := hpost; obtain ⟨t73, hpost⟩ := hpost; obtain ⟨ha_, hpost⟩ := hpost; subst ha_; clear H0 H1 H2 H3 H4 H5 H6 H7 H8 H9 H10 H11 H12; obtain ⟨S, p, pp, ka, kb, rfl, rfl, hBk, hx, hy, hb⟩ := hpost; obtain ⟨wb, hmv⟩ : ∃ Q, Q = x := ⟨_, rfl⟩
            rw [← hmv] at hBk hx hy hb ⊢
            clear hmv; have HBS := Lib.hid hBk; have HX1 := Lib.hid (show RowI wr.heap.size wb (.slice p E.days.ex.length ka) E.days.ex from hx)
            have HY1 := Lib.hid (show RowI wr.heap.size wb (.slice pp E.days.xt.length kb) E.days.xt from hy)
            have HWb := Lib.hid (HW.out.trans (hb.mono HW.out.size))
            clear hBk hx hy hb HGr HTr HRr HCE; have HGr := Lib.hid (HG.out.below HWb.out HG.out.lt)
            have HTr := Lib.hid (HT.out.below HWb.out HT.out.lt)
            have HRr := Lib.hid (show RowS w2.heap.size wb (.slice (some ⟨D, 0, none⟩) xs.length cr) xs from ownsRow_below HR.out HWb.out)
            have HCE := Lib.hid (show ∀ W, Below wb.heap.size wb W → Calls Tryz.prog 70 #[.agg #[.int .i64 g.days, .int .i64 g.slots, .int .i64 g.begin_, .int .i64 g.mins], .agg #[.int .i64 t.first, .int .i64 t.weeks, .slice pt t.hols.length ct], .agg #[.string y.cls, .int .i64 y.tim.weeks, .int .i64 y.tim.day, .int .i64 y.tim.start, .int .i64 y.tim.len, .string y.room], .int .i64 q] W (RetE E bb W) from fun W hW => by
              have hv : RowI w1.heap.size W (.slice pt t.hols.length ct) t.hols := ownsRow_below (ownsRow_below HV5.out HWb.out) hW
              obtain ⟨a1, a2, ha, hi2⟩ := hv.ints
              have ha1 : a1 = pt := by injection ha with h1 h2 h3; exact h1.symm
              subst ha1; rw [HEQ.out, HBQ.out]
              exact ev70 g t y q a1 ct W.heap.size W (Nat.le_refl _) hi2 (by omega))
            go_upto_region 14 with (fail)
            refine wp_region_tail 13 (by kernel_rfl) (fun listed a x => ∃ (l0 l1 l2 l3 l4 l5 l6 l7 l8 l9 l10 l11 l12 : Bool) (t15 t74 t75 t76 t77 t78 t79 t80 t81 t82 t83 t84 : Value), listed = #[l0, l1, l2, l3, l4, l5, l6, l7, l8, l9, l10, l11, l12, false] ∧ a = ⟨(.agg #[.string s.cls, .int .i64 s.tim.weeks, .int .i64 s.tim.day, .int .i64 s.tim.start, .int .i64 s.tim.len, .string s.room] :: .int .i64 q :: .slice ao len cap :: .pointer (some ⟨X, 0, none⟩) :: undef :: undef :: u6 :: .pointer (some ⟨G, 0, none⟩) :: .pointer (some ⟨T, 0, none⟩) :: .slice pu ls.length cu :: .slice (some ⟨D, 0, none⟩) xs.length cr :: .int .i64 k :: .int .i64 i :: .pointer (some ⟨S, 0, none⟩) :: .bool bb :: t15 :: u16 :: .slice ao len cap :: .bool true :: .bool false :: undef :: .tuple #[.agg #[.int .i64 g.days, .int .i64 g.slots, .int .i64 g.begin_, .int .i64 g.mins], .agg #[.int .i64 t.first, .int .i64 t.weeks, .slice pt t.hols.length ct], .slice pu ls.length cu] :: .slice ao len cap :: .pointer (some ⟨b, 0, none⟩) :: .tuple #[.agg #[.int .i64 g.days, .int .i64 g.slots, .int .i64 g.begin_, .int .i64 g.mins], .agg #[.int .i64 t.first, .int .i64 t.weeks, .slice pt t.hols.length ct], .slice pu ls.length cu] :: .agg #[.int .i64 g.days, .int .i64 g.slots, .int .i64 g.begin_, .int .i64 g.mins] :: .agg #[.int .i64 t.first, .int .i64 t.weeks, .slice pt t.hols.length ct] :: .slice pu ls.length cu :: .agg #[.string s.cls, .int .i64 s.tim.weeks, .int .i64 s.tim.day, .int .i64 s.tim.start, .int .i64 s.tim.len, .string s.room] :: .slice (some ⟨w3.heap.size, 0, none⟩) 1 1 :: .int .i64 k :: .slice pu ls.length cu :: .int .i64 ls.length :: .bool false :: u34 :: u35 :: u36 :: u37 :: u38 :: u39 :: u40 :: u41 :: u42 :: u43 :: u44 :: u45 :: u46 :: u47 :: u48 :: u49 :: u50 :: u51 :: u52 :: u53 :: u54 :: u55 :: u56 :: .int .i64 i :: .slice (some ⟨D, 0, none⟩) xs.length cr :: .int .i64 xs.length :: .bool true :: u61 :: u62 :: t63 :: t64 :: t65 :: t66 :: t67 :: t68 :: t69 :: t70 :: t71 :: t72 :: t73 :: t74 :: t75 :: t76 :: t77 :: t78 :: t79 :: t80 :: t81 :: t82 :: t83 :: t84 :: u85 :: u86 :: u87 :: u88 :: u89 :: u90 :: u91 :: u92 :: u93 :: undef :: []).toArray, []⟩ ∧ Hid (l0 = true → t75 = .agg #[.int .i64 g.days, .int .i64 g.slots, .int .i64 g.begin_, .int .i64 g.mins]) ∧ Hid (l1 = true → t76 = .agg #[.int .i64 t.first, .int .i64 t.weeks, .slice pt t.hols.length ct]) ∧ Hid (l2 = true → t77 = .slice (some ⟨D, 0, none⟩) xs.length cr) ∧ Hid (l3 = true → t78 = .int .i64 i) ∧ Hid (l4 = true → t79 = .pointer (some ⟨D, i * 6, none⟩)) ∧ Hid (l5 = true → t80 = .agg #[.string y.cls, .int .i64 y.tim.weeks, .int .i64 y.tim.day, .int .i64 y.tim.start, .int .i64 y.tim.len, .string y.room]) ∧ Hid (l6 = true → t81 = .int .i64 q) ∧ Hid (l7 = true → l8 = false → ∃ (p : Option Addr) (pp : Option Addr) (ka : Nat) (kb : Nat), t82 = .tuple #[.agg #[.string E.uid, .int .i64 E.seq, .bool E.canc, .int .i64 E.days.first, .int .i64 E.days.last, .int .i64 E.days.every, .int .i64 E.days.wd, .slice p E.days.ex.length ka, .slice pp E.days.xt.length kb, .int .i64 E.start, .int .i64 E.mins, .string E.summ, .string E.loc], .bool bb] ∧ RowI wb.heap.size x (.slice p E.days.ex.length ka) E.days.ex ∧ RowI wb.heap.size x (.slice pp E.days.xt.length kb) E.days.xt) ∧ Hid (l8 = true → ∃ (p : Option Addr) (pp : Option Addr) (ka : Nat) (kb : Nat), t74 = .tuple #[.agg #[.string E.uid, .int .i64 E.seq, .bool E.canc, .int .i64 E.days.first, .int .i64 E.days.last, .int .i64 E.days.every, .int .i64 E.days.wd, .slice p E.days.ex.length ka, .slice pp E.days.xt.length kb, .int .i64 E.start, .int .i64 E.mins, .string E.summ, .string E.loc], .bool bb] ∧ RowI wb.heap.size x (.slice p E.days.ex.length ka) E.days.ex ∧ RowI wb.heap.size x (.slice pp E.days.xt.length kb) E.days.xt) ∧ Hid (l9 = true → l12 = false → ∃ (p : Option Addr) (pp : Option Addr) (ka : Nat) (kb : Nat), t83 = .agg #[.string E.uid, .int .i64 E.seq, .bool E.canc, .int .i64 E.days.first, .int .i64 E.days.last, .int .i64 E.days.every, .int .i64 E.days.wd, .slice p E.days.ex.length ka, .slice pp E.days.xt.length kb, .int .i64 E.start, .int .i64 E.mins, .string E.summ, .string E.loc] ∧ RowI wb.heap.size x (.slice p E.days.ex.length ka) E.days.ex ∧ RowI wb.heap.size x (.slice pp E.days.xt.length kb) E.days.xt) ∧ Hid (l10 = true → t84 = .bool bb) ∧ Hid (l11 = true → l12 = false → ∃ (S : Nat), t15 = .pointer (some ⟨S, 0, none⟩) ∧ wb.heap.size ≤ S ∧ Blk S #[.string ⟨#[]⟩, .int .i64 0, .bool false, .int .i64 0, .int .i64 0, .int .i64 0, .int .i64 0, .slice none 0 0, .slice none 0 0, .int .i64 0, .int .i64 0, .string ⟨#[]⟩, .string ⟨#[]⟩] 82 x) ∧ Hid (l12 = true → ∃ (S : Nat) (p : Option Addr) (pp : Option Addr) (ka : Nat) (kb : Nat), t15 = .pointer (some ⟨S, 0, none⟩) ∧ wb.heap.size ≤ S ∧ Blk S #[.string E.uid, .int .i64 E.seq, .bool E.canc, .int .i64 E.days.first, .int .i64 E.days.last, .int .i64 E.days.every, .int .i64 E.days.wd, .slice p E.days.ex.length ka, .slice pp E.days.xt.length kb, .int .i64 E.start, .int .i64 E.mins, .string E.summ, .string E.loc] 82 x ∧ RowI wb.heap.size x (.slice p E.days.ex.length ka) E.days.ex ∧ RowI wb.heap.size x (.slice pp E.days.xt.length kb) E.days.xt ∧ l11 = true) ∧ Hid (Made wb x)) (by decide) (by kernel_rfl) (by kernel_rfl) ?_ ?_ ?_ ?_
            · exact ⟨false, false, false, false, false, false, false, false, false, false, false, false, false, _, _, _, _, _, _, _, _, _, _, _, _, rfl, rfl, Lib.hid (fun h => by cases h), Lib.hid (fun h => by cases h), Lib.hid (fun h => by cases h), Lib.hid (fun h => by cases h), Lib.hid (fun h => by cases h), Lib.hid (fun h => by cases h), Lib.hid (fun h => by cases h), Lib.hid (fun h => by cases h), Lib.hid (fun h => by cases h), Lib.hid (fun h => by cases h), Lib.hid (fun h => by cases h), Lib.hid (fun h => by cases h), Lib.hid (fun h => by cases h), Lib.hid (Made.start wb)⟩
            · intro listed a x hj; obtain ⟨l0, hj⟩ := hj
              obtain ⟨l1, hj⟩ := hj; obtain ⟨l2, hj⟩ := hj; obtain ⟨l3, hj⟩ := hj; obtain ⟨l4, hj⟩ := hj; obtain ⟨l5, hj⟩ := hj; obtain ⟨l6, hj⟩ := hj; obtain ⟨l7, hj⟩ := hj; obtain ⟨l8, hj⟩ := hj; obtain ⟨l9, hj⟩ := hj; obtain ⟨l10, hj⟩ := hj; obtain ⟨l11, hj⟩ := hj; obtain ⟨l12, hj⟩ := hj; obtain ⟨t15, hj⟩ := hj; obtain ⟨t74, hj⟩ := hj; obtain ⟨t75, hj⟩ := hj; obtain ⟨t76, hj⟩ := hj; obtain ⟨t77, hj⟩ := hj; obtain ⟨t78, hj⟩ := hj; obtain ⟨t79, hj⟩ := hj; obtain ⟨t80, hj⟩ := hj; obtain ⟨t81, hj⟩ := hj; obtain ⟨t82, hj⟩ := hj; obtain ⟨t83, hj⟩ := hj; obtain ⟨t84, hj⟩ := hj; obtain ⟨h1, -⟩ := hj; subst h1; exact ⟨rfl, fun k h1 h2 => by (have h2 : k < 14 := h2); obtain rfl : k = 13 := (by omega); rfl⟩
            · intro listed a x i hj hlt hu haf; obtain ⟨l0, hj⟩ := hj
              obtain ⟨l1, hj⟩ := hj; obtain ⟨l2, hj⟩ := hj; obtain ⟨l3, hj⟩ := hj; obtain ⟨l4, hj⟩ := hj; obtain ⟨l5, hj⟩ := hj; obtain ⟨l6, hj⟩ := hj; obtain ⟨l7, hj⟩ := hj; obtain ⟨l8, hj⟩ := hj; obtain ⟨l9, hj⟩ := hj; obtain ⟨l10, hj⟩ := hj; obtain ⟨l11, hj⟩ := hj; obtain ⟨l12, hj⟩ := hj; obtain ⟨t15, hj⟩ := hj; obtain ⟨t74, hj⟩ := hj; obtain ⟨t75, hj⟩ := hj; obtain ⟨t76, hj⟩ := hj; obtain ⟨t77, hj⟩ := hj; obtain ⟨t78, hj⟩ := hj; obtain ⟨t79, hj⟩ := hj; obtain ⟨t80, hj⟩ := hj; obtain ⟨t81, hj⟩ := hj; obtain ⟨t82, hj⟩ := hj; obtain ⟨t83, hj⟩ := hj; obtain ⟨t84, hj⟩ := hj; obtain ⟨hl_, hj⟩ := hj; obtain ⟨ha_, hj⟩ := hj; obtain ⟨H0, hj⟩ := hj; obtain ⟨H1, hj⟩ := hj; obtain ⟨H2, hj⟩ := hj; obtain ⟨H3, hj⟩ := hj; obtain ⟨H4, hj⟩ := hj; obtain ⟨H5, hj⟩ := hj; obtain ⟨H6, hj⟩ := hj; obtain ⟨H7, hj⟩ := hj; obtain ⟨H8, hj⟩ := hj; obtain ⟨H9, hj⟩ := hj; obtain ⟨H10, hj⟩ := hj; obtain ⟨H11, hj⟩ := hj; obtain ⟨H12, hj⟩ := hj; have HS := hj; clear hj; subst hl_; subst ha_; rcases (show ∀ i : Nat, i < 13 → (i = 0 ∨ i = 1 ∨ i = 2 ∨ i = 3 ∨ i = 4 ∨ i = 5 ∨ i = 6 ∨ i = 7 ∨ i = 8 ∨ i = 9 ∨ i = 10 ∨ i = 11 ∨ i = 12) by decide) i hlt with rfl | rfl | rfl | rfl | rfl | rfl | rfl | rfl | rfl | rfl | rfl | rfl | rfl
              · have haf := haf _ rfl; clear haf
                have hu : l0 = false := hu
                have hcG0 : x.cell? ⟨G, 0, none⟩ = some (.int .i64 g.days) := (HGr.out.below HS.out.below HGr.out.lt).cell 0
                have hcG1 : x.cell? ⟨G, 1, none⟩ = some (.int .i64 g.slots) := (HGr.out.below HS.out.below HGr.out.lt).cell 1
                have hcG2 : x.cell? ⟨G, 2, none⟩ = some (.int .i64 g.begin_) := (HGr.out.below HS.out.below HGr.out.lt).cell 2
                have hcG3 : x.cell? ⟨G, 3, none⟩ = some (.int .i64 g.mins) := (HGr.out.below HS.out.below HGr.out.lt).cell 3
                refine wpOp_of_list_any rfl fun QQ hQ => ?_
                have hQQ := Lib.hid hQ; clear hQ; simp only [List.getElem_toArray, List.getElem_cons_zero]
                go_wp2_with fail
                exact hQQ.out _ _ ⟨true, l1, l2, l3, l4, l5, l6, l7, l8, l9, l10, l11, l12, _, _, _, _, _, _, _, _, _, _, _, _, rfl, rfl, Lib.hid (fun _ => rfl), H1, H2, H3, H4, H5, H6, H7, H8, H9, H10, H11, H12, HS⟩
              · have haf := haf _ rfl; clear haf
                have hu : l1 = false := hu
                have hcT0 : x.cell? ⟨T, 0, none⟩ = some (.int .i64 t.first) := (HTr.out.below HS.out.below HTr.out.lt).cell 0
                have hcT1 : x.cell? ⟨T, 1, none⟩ = some (.int .i64 t.weeks) := (HTr.out.below HS.out.below HTr.out.lt).cell 1
                have hcT2 : x.cell? ⟨T, 2, none⟩ = some (.slice pt t.hols.length ct) := (HTr.out.below HS.out.below HTr.out.lt).cell 2
                refine wpOp_of_list_any rfl fun QQ hQ => ?_
                have hQQ := Lib.hid hQ; clear hQ; simp only [List.getElem_toArray, List.getElem_cons_zero, List.getElem_cons_succ]
                go_wp2_with fail
                exact hQQ.out _ _ ⟨l0, true, l2, l3, l4, l5, l6, l7, l8, l9, l10, l11, l12, _, _, _, _, _, _, _, _, _, _, _, _, rfl, rfl, H0, Lib.hid (fun _ => rfl), H2, H3, H4, H5, H6, H7, H8, H9, H10, H11, H12, HS⟩
              · have haf := haf _ rfl; clear haf
                have hu : l2 = false := hu
                refine wpOp_of_list_any rfl fun QQ hQ => ?_
                have hQQ := Lib.hid hQ; clear hQ; simp only [List.getElem_toArray, List.getElem_cons_zero, List.getElem_cons_succ]
                go_wp2_with fail
                exact hQQ.out _ _ ⟨l0, l1, true, l3, l4, l5, l6, l7, l8, l9, l10, l11, l12, _, _, _, _, _, _, _, _, _, _, _, _, rfl, rfl, H0, H1, Lib.hid (fun _ => rfl), H3, H4, H5, H6, H7, H8, H9, H10, H11, H12, HS⟩
              · have haf := haf _ rfl; clear haf
                have hu : l3 = false := hu
                refine wpOp_of_list_any rfl fun QQ hQ => ?_
                have hQQ := Lib.hid hQ; clear hQ; simp only [List.getElem_toArray, List.getElem_cons_zero, List.getElem_cons_succ]
                go_wp2_with fail
                exact hQQ.out _ _ ⟨l0, l1, l2, true, l4, l5, l6, l7, l8, l9, l10, l11, l12, _, _, _, _, _, _, _, _, _, _, _, _, rfl, rfl, H0, H1, H2, Lib.hid (fun _ => rfl), H4, H5, H6, H7, H8, H9, H10, H11, H12, HS⟩
              · have haf := haf _ rfl; have q2 : l2 = true := haf ⟨2, Go.Ground.data⟩ (by simp) rfl
                have q3 : l3 = true := haf ⟨3, Go.Ground.data⟩ (by simp) rfl
                clear haf; have hu : l4 = false := hu
                have e2 := (H2.out q2)
                subst e2; clear H2; have e3 := (H3.out q3)
                subst e3; clear H3; refine wpOp_of_list_any rfl fun QQ hQ => ?_
                have hQQ := Lib.hid hQ; clear hQ; simp only [List.getElem_toArray, List.getElem_cons_zero, List.getElem_cons_succ]
                go_wp2_with fail
                exact hQQ.out _ _ ⟨l0, l1, l2, l3, true, l5, l6, l7, l8, l9, l10, l11, l12, _, _, _, _, _, _, _, _, _, _, _, _, rfl, rfl, H0, H1, Lib.hid (fun _ => rfl), Lib.hid (fun _ => rfl), Lib.hid (fun _ => rfl), H5, H6, H7, H8, H9, H10, H11, H12, HS⟩
              · have haf := haf _ rfl; have q4 : l4 = true := haf ⟨4, Go.Ground.data⟩ (by simp) rfl
                clear haf; have hu : l5 = false := hu
                have e4 := (H4.out q4)
                subst e4; clear H4; have hy0 : x.cell? ⟨D, i * 6, none⟩ = some (.string y.cls) := (show RowS w2.heap.size x (.slice (some ⟨D, 0, none⟩) xs.length cr) xs from ownsRow_below HRr.out HS.out.below).cell i 0 y _ HY.out (by decide) rfl
                have hy1 : x.cell? ⟨D, i * 6 + 1, none⟩ = some (.int .i64 y.tim.weeks) := (show RowS w2.heap.size x (.slice (some ⟨D, 0, none⟩) xs.length cr) xs from ownsRow_below HRr.out HS.out.below).cell i 1 y _ HY.out (by decide) rfl
                have hy2 : x.cell? ⟨D, i * 6 + 2, none⟩ = some (.int .i64 y.tim.day) := (show RowS w2.heap.size x (.slice (some ⟨D, 0, none⟩) xs.length cr) xs from ownsRow_below HRr.out HS.out.below).cell i 2 y _ HY.out (by decide) rfl
                have hy3 : x.cell? ⟨D, i * 6 + 3, none⟩ = some (.int .i64 y.tim.start) := (show RowS w2.heap.size x (.slice (some ⟨D, 0, none⟩) xs.length cr) xs from ownsRow_below HRr.out HS.out.below).cell i 3 y _ HY.out (by decide) rfl
                have hy4 : x.cell? ⟨D, i * 6 + 4, none⟩ = some (.int .i64 y.tim.len) := (show RowS w2.heap.size x (.slice (some ⟨D, 0, none⟩) xs.length cr) xs from ownsRow_below HRr.out HS.out.below).cell i 4 y _ HY.out (by decide) rfl
                have hy5 : x.cell? ⟨D, i * 6 + 5, none⟩ = some (.string y.room) := (show RowS w2.heap.size x (.slice (some ⟨D, 0, none⟩) xs.length cr) xs from ownsRow_below HRr.out HS.out.below).cell i 5 y _ HY.out (by decide) rfl
                refine wpOp_of_list_any rfl fun QQ hQ => ?_
                have hQQ := Lib.hid hQ; clear hQ; simp only [List.getElem_toArray, List.getElem_cons_zero, List.getElem_cons_succ]
                go_wp2_with fail
                exact hQQ.out _ _ ⟨l0, l1, l2, l3, l4, true, l6, l7, l8, l9, l10, l11, l12, _, _, _, _, _, _, _, _, _, _, _, _, rfl, rfl, H0, H1, H2, H3, Lib.hid (fun _ => rfl), Lib.hid (fun _ => rfl), H6, H7, H8, H9, H10, H11, H12, HS⟩
              · have haf := haf _ rfl; clear haf
                have hu : l6 = false := hu
                refine wpOp_of_list_any rfl fun QQ hQ => ?_
                have hQQ := Lib.hid hQ; clear hQ; simp only [List.getElem_toArray, List.getElem_cons_zero, List.getElem_cons_succ]
                go_wp2_with fail
                exact hQQ.out _ _ ⟨l0, l1, l2, l3, l4, l5, true, l7, l8, l9, l10, l11, l12, _, _, _, _, _, _, _, _, _, _, _, _, rfl, rfl, H0, H1, H2, H3, H4, H5, Lib.hid (fun _ => rfl), H7, H8, H9, H10, H11, H12, HS⟩
              · have haf := haf _ rfl; have q0 : l0 = true := haf ⟨0, Go.Ground.data⟩ (by simp) rfl
                have q1 : l1 = true := haf ⟨1, Go.Ground.data⟩ (by simp) rfl
                have q5 : l5 = true := haf ⟨5, Go.Ground.data⟩ (by simp) rfl
                have q6 : l6 = true := haf ⟨6, Go.Ground.data⟩ (by simp) rfl
                clear haf; have hu : l7 = false := hu
                have e0 := (H0.out q0)
                subst e0; clear H0; have e1 := (H1.out q1)
                subst e1; clear H1; have e5 := (H5.out q5)
                subst e5; clear H5; have e6 := (H6.out q6)
                subst e6; clear H6; refine wpOp_of_list_any rfl fun QQ hQ => ?_
                have hQQ := Lib.hid hQ; clear hQ; simp only [List.getElem_toArray, List.getElem_cons_zero, List.getElem_cons_succ]
                go_wp2_with fail
                refine (HCE.out x HS.out.below).mono ?_
                rintro e x1 ⟨p, pp, ka, kb, rfl, hx, hy, hb1⟩; have hk := Kept.made (B := wb.heap.size) hb1
                have HS1 := Lib.hid (HS.out.then hb1)
                have HX1 := Lib.hid (ownsRow_mono hx HS.out.below.size)
                have HY1 := Lib.hid (ownsRow_mono hy HS.out.below.size)
                clear hb1 hx hy; unfold evVal evCells
                go_wp2_with fail
                exact hQQ.out _ _ ⟨l0, l1, l2, l3, l4, l5, l6, true, l8, l9, l10, l11, l12, _, _, _, _, _, _, _, _, _, _, _, _, rfl, rfl, Lib.hid (fun _ => rfl), Lib.hid (fun _ => rfl), H2, H3, H4, Lib.hid (fun _ => rfl), Lib.hid (fun _ => rfl), Lib.hid (fun _ _ => ⟨p, pp, ka, kb, rfl, HX1.out, HY1.out⟩), Lib.hid (fun h => (by obtain ⟨p, pp, ka, kb, e, c0, c1⟩ := H8.out h; exact ⟨p, pp, ka, kb, e, (row_kept c0 hk), (row_kept c1 hk)⟩)), Lib.hid (fun h h2 => (by obtain ⟨p, pp, ka, kb, e, c0, c1⟩ := H9.out h h2; exact ⟨p, pp, ka, kb, e, (row_kept c0 hk), (row_kept c1 hk)⟩)), H10, Lib.hid (fun h h2 => (by obtain ⟨S, e, c0, c1⟩ := H11.out h h2; exact ⟨S, e, c0, (hk _ _ _ c0 c1)⟩)), Lib.hid (fun h => (by obtain ⟨S, p, pp, ka, kb, e, c0, c1, c2, c3, c4⟩ := H12.out h; exact ⟨S, p, pp, ka, kb, e, c0, (hk _ _ _ c0 c1), (row_kept c2 hk), (row_kept c3 hk), c4⟩)), HS1⟩
              · have haf := haf _ rfl; have q7 : l7 = true := haf ⟨7, Go.Ground.data⟩ (by simp) rfl
                clear haf; have hu : l8 = false := hu
                obtain ⟨p7, pp7, ka7, kb7, e7, c7_0, c7_1⟩ := (H7.out q7 hu)
                subst e7; clear H7; refine wpOp_of_list_any rfl fun QQ hQ => ?_
                have hQQ := Lib.hid hQ; clear hQ; simp only [List.getElem_toArray, List.getElem_cons_zero, List.getElem_cons_succ]
                go_wp2_with fail
                exact hQQ.out _ _ ⟨l0, l1, l2, l3, l4, l5, l6, l7, true, l9, l10, l11, l12, _, _, _, _, _, _, _, _, _, _, _, _, rfl, rfl, H0, H1, H2, H3, H4, H5, H6, Lib.hid (fun _ h => by cases h), Lib.hid (fun _ => ⟨_, _, _, _, rfl, c7_0, c7_1⟩), H9, H10, H11, H12, HS⟩
              · have haf := haf _ rfl; have q8 : l8 = true := haf ⟨8, Go.Ground.data⟩ (by simp) rfl
                clear haf; have hu : l9 = false := hu
                obtain ⟨p8, pp8, ka8, kb8, e8, c8_0, c8_1⟩ := (H8.out q8)
                subst e8; clear H8; refine wpOp_of_list_any rfl fun QQ hQ => ?_
                have hQQ := Lib.hid hQ; clear hQ; simp only [List.getElem_toArray, List.getElem_cons_zero, List.getElem_cons_succ]
                go_wp2_with fail
                exact hQQ.out _ _ ⟨l0, l1, l2, l3, l4, l5, l6, l7, l8, true, l10, l11, l12, _, _, _, _, _, _, _, _, _, _, _, _, rfl, rfl, H0, H1, H2, H3, H4, H5, H6, H7, Lib.hid (fun _ => ⟨p8, pp8, ka8, kb8, rfl, c8_0, c8_1⟩), Lib.hid (fun _ _ => ⟨_, _, _, _, rfl, c8_0, c8_1⟩), H10, H11, H12, HS⟩
              · have haf := haf _ rfl; have q8 : l8 = true := haf ⟨8, Go.Ground.data⟩ (by simp) rfl
                clear haf; have hu : l10 = false := hu
                obtain ⟨p8, pp8, ka8, kb8, e8, c8_0, c8_1⟩ := (H8.out q8)
                subst e8; clear H8; refine wpOp_of_list_any rfl fun QQ hQ => ?_
                have hQQ := Lib.hid hQ; clear hQ; simp only [List.getElem_toArray, List.getElem_cons_zero, List.getElem_cons_succ]
                go_wp2_with fail
                exact hQQ.out _ _ ⟨l0, l1, l2, l3, l4, l5, l6, l7, l8, l9, true, l11, l12, _, _, _, _, _, _, _, _, _, _, _, _, rfl, rfl, H0, H1, H2, H3, H4, H5, H6, H7, Lib.hid (fun _ => ⟨p8, pp8, ka8, kb8, rfl, c8_0, c8_1⟩), H9, Lib.hid (fun _ => rfl), H11, H12, HS⟩
              · have haf := haf _ rfl; clear haf
                have hu : l11 = false := hu
                refine wpOp_of_list_any rfl fun QQ hQ => ?_
                have hQQ := Lib.hid hQ; clear hQ; simp only [List.getElem_toArray, List.getElem_cons_zero, List.getElem_cons_succ]
                go_wp2_with fail
                exact hQQ.out _ _ ⟨l0, l1, l2, l3, l4, l5, l6, l7, l8, l9, l10, true, l12, _, _, _, _, _, _, _, _, _, _, _, _, rfl, rfl, H0, H1, H2, H3, H4, H5, H6, Lib.hid (fun h h2 => (by obtain ⟨p, pp, ka, kb, e, c0, c1⟩ := H7.out h h2; exact ⟨p, pp, ka, kb, e, (row_kept c0 (Kept.alloc _ x _)), (row_kept c1 (Kept.alloc _ x _))⟩)), Lib.hid (fun h => (by obtain ⟨p, pp, ka, kb, e, c0, c1⟩ := H8.out h; exact ⟨p, pp, ka, kb, e, (row_kept c0 (Kept.alloc _ x _)), (row_kept c1 (Kept.alloc _ x _))⟩)), Lib.hid (fun h h2 => (by obtain ⟨p, pp, ka, kb, e, c0, c1⟩ := H9.out h h2; exact ⟨p, pp, ka, kb, e, (row_kept c0 (Kept.alloc _ x _)), (row_kept c1 (Kept.alloc _ x _))⟩)), H10, Lib.hid (fun _ _ => ⟨_, rfl, HS.out.below.size, Blk.new x _ _⟩), Lib.hid (fun h => absurd (hu.symm.trans (by obtain ⟨S, p, pp, ka, kb, e, c0, c1, c2, c3, c4⟩ := H12.out h; exact c4)) (by decide)), Lib.hid (HS.out.alloc _)⟩
              · have haf := haf _ rfl; have q11 : l11 = true := haf ⟨11, Go.Ground.data⟩ (by simp) rfl
                have q9 : l9 = true := haf ⟨9, Go.Ground.data⟩ (by simp) rfl
                clear haf; have hu : l12 = false := hu
                obtain ⟨S11, e11, c11_0, c11_1⟩ := (H11.out q11 hu)
                subst e11; clear H11; obtain ⟨p9, pp9, ka9, kb9, e9, c9_0, c9_1⟩ := (H9.out q9 hu)
                subst e9; clear H9; have HZ := Lib.hid c11_1; have f0 := HZ.out.frozen 0; have f1 := HZ.out.frozen 1; have f2 := HZ.out.frozen 2; have f3 := HZ.out.frozen 3; have f4 := HZ.out.frozen 4; have f5 := HZ.out.frozen 5; have f6 := HZ.out.frozen 6; have f7 := HZ.out.frozen 7; have f8 := HZ.out.frozen 8; have f9 := HZ.out.frozen 9; have f10 := HZ.out.frozen 10; have f11 := HZ.out.frozen 11; have f12 := HZ.out.frozen 12; have y0 := HZ.out.cell 0; have y1 := HZ.out.cell 1; have y2 := HZ.out.cell 2; have y3 := HZ.out.cell 3; have y4 := HZ.out.cell 4; have y5 := HZ.out.cell 5; have y6 := HZ.out.cell 6; have y7 := HZ.out.cell 7; have y8 := HZ.out.cell 8; have y9 := HZ.out.cell 9; have y10 := HZ.out.cell 10; have y11 := HZ.out.cell 11; have y12 := HZ.out.cell 12; simp only [List.getElem?_toArray, List.getElem?_cons_zero, List.getElem?_cons_succ] at y0 y1 y2 y3 y4 y5 y6 y7 y8 y9 y10 y11 y12
                obtain ⟨Y, hY, hBk, hE⟩ := fill13 c11_1 rfl HS.out.below c11_0 (.string E.uid) (.int .i64 E.seq) (.bool E.canc) (.int .i64 E.days.first) (.int .i64 E.days.last) (.int .i64 E.days.every) (.int .i64 E.days.wd) (.slice p9 E.days.ex.length ka9) (.slice pp9 E.days.xt.length kb9) (.int .i64 E.start) (.int .i64 E.mins) (.string E.summ) (.string E.loc)
                have HRW := Lib.hid (show ∀ (v : Value) (zs : List Int), RowI wb.heap.size x v zs → RowI wb.heap.size Y v zs from fun v zs h => by rw [hY]; exact row_setAll (by decide) [.string E.uid, .int .i64 E.seq, .bool E.canc, .int .i64 E.days.first, .int .i64 E.days.last, .int .i64 E.days.every, .int .i64 E.days.wd, .slice p9 E.days.ex.length ka9, .slice pp9 E.days.xt.length kb9, .int .i64 E.start, .int .i64 E.mins, .string E.summ, .string E.loc] 0 x _ h HZ.out)
                have HX1 := Lib.hid (HRW.out _ _ c9_0)
                have HY1 := Lib.hid (HRW.out _ _ c9_1)
                have HBk := Lib.hid hBk; have HS1 := Lib.hid (show Made wb Y from ⟨hE⟩)
                simp only [setAll, Nat.zero_add, Nat.reduceAdd] at hY
                clear hBk hE; refine wpOp_of_list_any rfl fun QQ hQ => ?_
                have hQQ := Lib.hid hQ; clear hQ; simp only [List.getElem_toArray, List.getElem_cons_zero, List.getElem_cons_succ]
                go_wp2_with fail
                rw [← hY]; clear hY; exact hQQ.out _ _ ⟨l0, l1, l2, l3, l4, l5, l6, l7, l8, l9, l10, l11, true, _, _, _, _, _, _, _, _, _, _, _, _, rfl, rfl, H0, H1, H2, H3, H4, H5, H6, Lib.hid (fun h h2 => (by obtain ⟨p, pp, ka, kb, e, c0, c1⟩ := H7.out h h2; exact ⟨p, pp, ka, kb, e, (HRW.out _ _ c0), (HRW.out _ _ c1)⟩)), Lib.hid (fun h => (by obtain ⟨p, pp, ka, kb, e, c0, c1⟩ := H8.out h; exact ⟨p, pp, ka, kb, e, (HRW.out _ _ c0), (HRW.out _ _ c1)⟩)), Lib.hid (fun _ h => by cases h), H10, Lib.hid (fun _ h => by cases h), Lib.hid (fun _ => ⟨_, _, _, _, _, rfl, c11_0, HBk.out, HX1.out, HY1.out, q11⟩), HS1⟩
            · intro listed a x hj hall; obtain ⟨l0, hj⟩ := hj
              obtain ⟨l1, hj⟩ := hj; obtain ⟨l2, hj⟩ := hj; obtain ⟨l3, hj⟩ := hj; obtain ⟨l4, hj⟩ := hj; obtain ⟨l5, hj⟩ := hj; obtain ⟨l6, hj⟩ := hj; obtain ⟨l7, hj⟩ := hj; obtain ⟨l8, hj⟩ := hj; obtain ⟨l9, hj⟩ := hj; obtain ⟨l10, hj⟩ := hj; obtain ⟨l11, hj⟩ := hj; obtain ⟨l12, hj⟩ := hj; obtain ⟨t15, hj⟩ := hj; obtain ⟨t74, hj⟩ := hj; obtain ⟨t75, hj⟩ := hj; obtain ⟨t76, hj⟩ := hj; obtain ⟨t77, hj⟩ := hj; obtain ⟨t78, hj⟩ := hj; obtain ⟨t79, hj⟩ := hj; obtain ⟨t80, hj⟩ := hj; obtain ⟨t81, hj⟩ := hj; obtain ⟨t82, hj⟩ := hj; obtain ⟨t83, hj⟩ := hj; obtain ⟨t84, hj⟩ := hj; obtain ⟨hl_, hj⟩ := hj; obtain ⟨ha_, hj⟩ := hj; obtain ⟨H0, hj⟩ := hj; obtain ⟨H1, hj⟩ := hj; obtain ⟨H2, hj⟩ := hj; obtain ⟨H3, hj⟩ := hj; obtain ⟨H4, hj⟩ := hj; obtain ⟨H5, hj⟩ := hj; obtain ⟨H6, hj⟩ := hj; obtain ⟨H7, hj⟩ := hj; obtain ⟨H8, hj⟩ := hj; obtain ⟨H9, hj⟩ := hj; obtain ⟨H10, hj⟩ := hj; obtain ⟨H11, hj⟩ := hj; obtain ⟨H12, hj⟩ := hj; have HS := hj; clear hj; subst hl_; subst ha_; have q10 : l10 = true := hall 10 (by omega)
              have q12 : l12 = true := hall 12 (by omega)
              clear hall; have e10 := (H10.out q10)
              subst e10; obtain ⟨S12, p12, pp12, ka12, kb12, e12, c12_0, c12_1, c12_2, c12_3, c12_4⟩ := (H12.out q12)
              subst e12; refine tail_any (fun a x => ∃ (t15 t16 t74 t75 t76 t77 t78 t79 t80 t81 t82 t83 t84 : Value), a = ⟨(.agg #[.string s.cls, .int .i64 s.tim.weeks, .int .i64 s.tim.day, .int .i64 s.tim.start, .int .i64 s.tim.len, .string s.room] :: .int .i64 q :: .slice ao len cap :: .pointer (some ⟨X, 0, none⟩) :: undef :: undef :: u6 :: .pointer (some ⟨G, 0, none⟩) :: .pointer (some ⟨T, 0, none⟩) :: .slice pu ls.length cu :: .slice (some ⟨D, 0, none⟩) xs.length cr :: .int .i64 k :: .int .i64 i :: .pointer (some ⟨S, 0, none⟩) :: .bool bb :: t15 :: t16 :: .slice ao len cap :: .bool true :: .bool false :: undef :: .tuple #[.agg #[.int .i64 g.days, .int .i64 g.slots, .int .i64 g.begin_, .int .i64 g.mins], .agg #[.int .i64 t.first, .int .i64 t.weeks, .slice pt t.hols.length ct], .slice pu ls.length cu] :: .slice ao len cap :: .pointer (some ⟨b, 0, none⟩) :: .tuple #[.agg #[.int .i64 g.days, .int .i64 g.slots, .int .i64 g.begin_, .int .i64 g.mins], .agg #[.int .i64 t.first, .int .i64 t.weeks, .slice pt t.hols.length ct], .slice pu ls.length cu] :: .agg #[.int .i64 g.days, .int .i64 g.slots, .int .i64 g.begin_, .int .i64 g.mins] :: .agg #[.int .i64 t.first, .int .i64 t.weeks, .slice pt t.hols.length ct] :: .slice pu ls.length cu :: .agg #[.string s.cls, .int .i64 s.tim.weeks, .int .i64 s.tim.day, .int .i64 s.tim.start, .int .i64 s.tim.len, .string s.room] :: .slice (some ⟨w3.heap.size, 0, none⟩) 1 1 :: .int .i64 k :: .slice pu ls.length cu :: .int .i64 ls.length :: .bool false :: u34 :: u35 :: u36 :: u37 :: u38 :: u39 :: u40 :: u41 :: u42 :: u43 :: u44 :: u45 :: u46 :: u47 :: u48 :: u49 :: u50 :: u51 :: u52 :: u53 :: u54 :: u55 :: u56 :: .int .i64 i :: .slice (some ⟨D, 0, none⟩) xs.length cr :: .int .i64 xs.length :: .bool true :: u61 :: u62 :: t63 :: t64 :: t65 :: t66 :: t67 :: t68 :: t69 :: t70 :: t71 :: t72 :: t73 :: t74 :: t75 :: t76 :: t77 :: t78 :: t79 :: t80 :: t81 :: t82 :: t83 :: t84 :: u85 :: u86 :: u87 :: u88 :: u89 :: u90 :: u91 :: u92 :: u93 :: undef :: []).toArray, []⟩ ∧ ∃ (S : Nat) (p pp : Option Addr) (ka kb : Nat), t15 = .pointer (some ⟨S, 0, none⟩) ∧ t16 = .bool bb ∧ Blk S #[.string E.uid, .int .i64 E.seq, .bool E.canc, .int .i64 E.days.first, .int .i64 E.days.last, .int .i64 E.days.every, .int .i64 E.days.wd, .slice p E.days.ex.length ka, .slice pp E.days.xt.length kb, .int .i64 E.start, .int .i64 E.mins, .string E.summ, .string E.loc] 82 x ∧ RowI wb.heap.size x (.slice p E.days.ex.length ka) E.days.ex ∧ RowI wb.heap.size x (.slice pp E.days.xt.length kb) E.days.xt ∧ Below wb.heap.size wb x) ?_ fun QQ hQ => ?_
              · intro a x hpost; obtain ⟨t15, hpost⟩ := hpost
                obtain ⟨t16, hpost⟩ := hpost; obtain ⟨t74, hpost⟩ := hpost; obtain ⟨t75, hpost⟩ := hpost; obtain ⟨t76, hpost⟩ := hpost; obtain ⟨t77, hpost⟩ := hpost; obtain ⟨t78, hpost⟩ := hpost; obtain ⟨t79, hpost⟩ := hpost; obtain ⟨t80, hpost⟩ := hpost; obtain ⟨t81, hpost⟩ := hpost; obtain ⟨t82, hpost⟩ := hpost; obtain ⟨t83, hpost⟩ := hpost; obtain ⟨t84, hpost⟩ := hpost; obtain ⟨ha_, hpost⟩ := hpost; subst ha_; clear H0 H1 H2 H3 H4 H5 H6 H7 H8 H9 H10 H11 H12; obtain ⟨S2, p3, p4, ka2, kb2, rfl, rfl, hB2, hx2, hy2, hb2⟩ := hpost; obtain ⟨wc, hmv⟩ : ∃ Q, Q = x := ⟨_, rfl⟩
                rw [← hmv] at hB2 hx2 hy2 hb2 ⊢
                clear hmv; have HB2 := Lib.hid hB2; have HWc := Lib.hid (HWb.out.trans (hb2.mono HWb.out.size))
                have HB1 := Lib.hid (HBS.out.below hb2 HBS.out.lt)
                have HI1 := Lib.hid (ownsRow_below HX1.out hb2)
                have HI2 := Lib.hid (ownsRow_below HY1.out hb2)
                have HI3 := Lib.hid hx2; have HI4 := Lib.hid hy2; clear hB2 hx2 hy2 hb2; have r0 := HB1.out.cell 0; have r1 := HB1.out.cell 1; have r2 := HB1.out.cell 2; have r3 := HB1.out.cell 3; have r4 := HB1.out.cell 4; have r5 := HB1.out.cell 5; have r6 := HB1.out.cell 6; have r7 := HB1.out.cell 7; have r8 := HB1.out.cell 8; have r9 := HB1.out.cell 9; have r10 := HB1.out.cell 10; have r11 := HB1.out.cell 11; have r12 := HB1.out.cell 12; have s0 := HB2.out.cell 0; have s1 := HB2.out.cell 1; have s2 := HB2.out.cell 2; have s3 := HB2.out.cell 3; have s4 := HB2.out.cell 4; have s5 := HB2.out.cell 5; have s6 := HB2.out.cell 6; have s7 := HB2.out.cell 7; have s8 := HB2.out.cell 8; have s9 := HB2.out.cell 9; have s10 := HB2.out.cell 10; have s11 := HB2.out.cell 11; have s12 := HB2.out.cell 12; simp only [List.getElem?_toArray, List.getElem?_cons_zero, List.getElem?_cons_succ] at r0 s0 r1 s1 r2 s2 r3 s3 r4 s4 r5 s5 r6 s6 r7 s7 r8 s8 r9 s9 r10 s10 r11 s11 r12 s12
                skip
                go_wp2_with fail
                have HSE := sameev71 E E wc.heap.size wc p pp p3 p4 ka kb ka2 kb2 (Nat.le_refl _) (RowI.int_at HI1.out) (RowI.int_at HI2.out) (RowI.int_at HI3.out) (RowI.int_at HI4.out) hle.1 hle.2
                unfold evVal evCells at HSE
                rw [decide_eq_true (show E = E from rfl)] at HSE
                refine HSE.mono ?_
                clear HSE; rintro e w9 ⟨rfl, hb9⟩; have HW9 := Lib.hid (HWc.out.trans (hb9.mono HWc.out.size))
                clear hb9; go_wp2_with fail
                go_roundw
                case rel => exact ⟨i + 1, by go_num, by omega, HW9⟩
                case measure => simp [intOf]; omega
              have hQQ := Lib.hid hQ; clear hQ; simp only [List.drop_succ_cons, List.drop_zero]
              go_wp2_with fail
              exact hQQ.out _ _ ⟨_, _, _, _, _, _, _, _, _, _, _, _, _, rfl, _, _, _, _, _, rfl, rfl, c12_1, c12_2, c12_3, HS.out.below⟩
          have hQQ := Lib.hid hQ; clear hQ; simp only [List.drop_succ_cons, List.drop_zero]
          go_wp2_with fail
          exact hQQ.out _ _ ⟨_, _, _, _, _, _, _, _, _, _, _, _, _, rfl, _, _, _, _, _, rfl, rfl, c12_1, c12_2, c12_3, HS.out.below⟩
    have hki : (k : Int) < (ls.length : Int) := by omega
    have hk0 : (0 : Int) ≤ (k : Int) := by omega
    obtain ⟨z, hz⟩ : ∃ z, ls[k]? = some z := ⟨_, List.getElem?_eq_getElem (by omega)⟩
    have HOr := Lib.hid (HO2.out.below HK.out)
    obtain ⟨U, hpu⟩ : ∃ U, pu = some ⟨U, 0, none⟩ := by
      rcases HO2.out.row.2 with ⟨_, h0⟩ | ⟨U, cap, cur, hv, _⟩
      · omega
      · exact ⟨U, by injection hv⟩
    subst hpu; have hzr := HOr.out.each z (List.mem_of_getElem? hz)
    obtain ⟨pq, cq, hzv⟩ := hzr.slice
    have hzc : wr.cell? ⟨U, k, none⟩ = some (.slice pq z.2.length cq) := by
      rw [← hzv]; have := World.ownsRow.cells HOr.out.row (g := U) rfl k z.1 (by rw [List.getElem?_map, hz]; rfl)
      rw [Addr.add_lit] at this
      simpa using this
    rw [hzv] at hzr
    have HZR := Lib.hid hzr; have hzl := HLE.out z (List.mem_of_getElem? hz)
    clear hz hzv hzr; by_cases hz0 : z.2.length = 0
    · have hzi : ¬ (0 : Int) < (z.2.length : Int) := by omega
      have HLT := Lib.hid hlt; go_wp2_with fail
      go_roundw
      case rel => exact ⟨k + 1, xs, by go_num, by have := HLT.out; omega, by omega, HR, HK, HG, HT⟩
      case measure => simp [intOf]; omega
    obtain ⟨j, hj⟩ : ∃ j, z.2.length = j + 1 := ⟨z.2.length - 1, by omega⟩
    have hzi : (0 : Int) < (j : Int) + 1 := by omega
    have hj0 : (0 : Int) ≤ (j : Int) := by omega
    have hjl : (j : Int) < (j : Int) + 1 := by omega
    have hjm : j ≤ 200 := by omega
    obtain ⟨Z, cz, hzf, -⟩ := HZR.out.form (by omega)
    have hpq : pq = some ⟨Z, 0, none⟩ := by injection hzf
    subst hpq; clear hzf; obtain ⟨y, hy⟩ : ∃ y, z.2[j]? = some y := ⟨_, List.getElem?_eq_getElem (by omega)⟩
    have HJ := Lib.hid hj; have HZR2 := HZR; rw [hj] at hzc HZR2
    have HY := Lib.hid hy; clear hy hz0 HZR; obtain ⟨pr, cr, hv⟩ := HR.out.slice
    subst hv; have HLT := Lib.hid hlt; have hxl2 : xs.length ≤ 1000 := by omega
    clear hj; go_upto_region 9 with (fail)
    obtain ⟨wa, hwa⟩ : ∃ X, X = wr := ⟨_, rfl⟩
    rw [← hwa] at HR HK HG HT hzc HZR2 ⊢
    clear hwa; have HZC := Lib.hid hzc; have HUB := Lib.hid (show U < w2.heap.size from (World.ownsRow.lt HO2.out.row U rfl).2)
    clear hzc; refine wp_region_tail 14 (by kernel_rfl) (fun listed a x => ∃ (l0 l1 l2 l3 l4 l5 l6 l7 l8 l9 l10 l11 l12 l13 : Bool) (t42 t43 t44 t45 t46 t47 t48 t49 t50 t51 t52 t53 t54 t55 : Value), listed = #[l0, l1, l2, l3, l4, l5, l6, l7, l8, l9, l10, l11, l12, l13, false, false] ∧ a = ⟨(.agg #[.string s.cls, .int .i64 s.tim.weeks, .int .i64 s.tim.day, .int .i64 s.tim.start, .int .i64 s.tim.len, .string s.room] :: .int .i64 q :: .slice ao len cap :: .pointer (some ⟨X, 0, none⟩) :: undef :: undef :: .bool false :: .pointer (some ⟨G, 0, none⟩) :: .pointer (some ⟨T, 0, none⟩) :: .slice (some ⟨U, 0, none⟩) ls.length cu :: .slice pr xs.length cr :: .int .i64 k :: undef :: undef :: undef :: undef :: undef :: .slice ao len cap :: .bool true :: .bool false :: undef :: .tuple #[.agg #[.int .i64 g.days, .int .i64 g.slots, .int .i64 g.begin_, .int .i64 g.mins], .agg #[.int .i64 t.first, .int .i64 t.weeks, .slice pt t.hols.length ct], .slice (some ⟨U, 0, none⟩) ls.length cu] :: .slice ao len cap :: .pointer (some ⟨b, 0, none⟩) :: .tuple #[.agg #[.int .i64 g.days, .int .i64 g.slots, .int .i64 g.begin_, .int .i64 g.mins], .agg #[.int .i64 t.first, .int .i64 t.weeks, .slice pt t.hols.length ct], .slice (some ⟨U, 0, none⟩) ls.length cu] :: .agg #[.int .i64 g.days, .int .i64 g.slots, .int .i64 g.begin_, .int .i64 g.mins] :: .agg #[.int .i64 t.first, .int .i64 t.weeks, .slice pt t.hols.length ct] :: .slice (some ⟨U, 0, none⟩) ls.length cu :: .agg #[.string s.cls, .int .i64 s.tim.weeks, .int .i64 s.tim.day, .int .i64 s.tim.start, .int .i64 s.tim.len, .string s.room] :: .slice (some ⟨w3.heap.size, 0, none⟩) 1 1 :: .int .i64 k :: .slice (some ⟨U, 0, none⟩) ls.length cu :: .int .i64 ls.length :: .bool true :: u34 :: u35 :: .slice (some ⟨U, 0, none⟩) ls.length cu :: .int .i64 k :: .pointer (some ⟨U, k, none⟩) :: .slice (some ⟨Z, 0, none⟩) (j + 1) cq :: .int .i64 ((j : Int) + 1) :: .bool true :: t42 :: t43 :: t44 :: t45 :: t46 :: t47 :: t48 :: t49 :: t50 :: t51 :: t52 :: t53 :: t54 :: t55 :: u56 :: undef :: undef :: undef :: undef :: undef :: undef :: undef :: undef :: undef :: undef :: undef :: undef :: undef :: undef :: undef :: undef :: undef :: undef :: undef :: undef :: undef :: undef :: undef :: undef :: undef :: undef :: undef :: undef :: undef :: undef :: undef :: undef :: undef :: undef :: undef :: undef :: undef :: undef :: []).toArray, []⟩ ∧ Hid (l0 = true → t42 = .slice pr xs.length cr) ∧ Hid (l1 = true → t43 = .slice (some ⟨U, 0, none⟩) ls.length cu) ∧ Hid (l2 = true → t44 = .int .i64 k) ∧ Hid (l3 = true → t45 = .pointer (some ⟨U, k, none⟩)) ∧ Hid (l4 = true → t46 = .slice (some ⟨Z, 0, none⟩) (j + 1) cq) ∧ Hid (l5 = true → t47 = .slice (some ⟨U, 0, none⟩) ls.length cu) ∧ Hid (l6 = true → t48 = .int .i64 k) ∧ Hid (l7 = true → t49 = .pointer (some ⟨U, k, none⟩)) ∧ Hid (l8 = true → t50 = .slice (some ⟨Z, 0, none⟩) (j + 1) cq) ∧ Hid (l9 = true → t51 = .int .i64 ((j : Int) + 1)) ∧ Hid (l10 = true → t52 = .int .i64 j) ∧ Hid (l11 = true → t53 = .pointer (some ⟨Z, j * 6, none⟩)) ∧ Hid (l12 = true → t54 = .agg #[.string y.cls, .int .i64 y.tim.weeks, .int .i64 y.tim.day, .int .i64 y.tim.start, .int .i64 y.tim.len, .string y.room]) ∧ Hid (l13 = true → ∃ (g : Nat), t55 = .slice (some ⟨g, 0, none⟩) 1 1 ∧ wa.heap.size ≤ g ∧ Blk g (sesCells y) 107 x) ∧ Hid (Made wa x)) (by decide) (by kernel_rfl) (by kernel_rfl) ?_ ?_ ?_ ?_
    · exact ⟨false, false, false, false, false, false, false, false, false, false, false, false, false, false, _, _, _, _, _, _, _, _, _, _, _, _, _, _, rfl, rfl, Lib.hid (fun h => by cases h), Lib.hid (fun h => by cases h), Lib.hid (fun h => by cases h), Lib.hid (fun h => by cases h), Lib.hid (fun h => by cases h), Lib.hid (fun h => by cases h), Lib.hid (fun h => by cases h), Lib.hid (fun h => by cases h), Lib.hid (fun h => by cases h), Lib.hid (fun h => by cases h), Lib.hid (fun h => by cases h), Lib.hid (fun h => by cases h), Lib.hid (fun h => by cases h), Lib.hid (fun h => by cases h), Lib.hid (Made.start wa)⟩
    · intro listed a x hj; obtain ⟨l0, hj⟩ := hj
      obtain ⟨l1, hj⟩ := hj; obtain ⟨l2, hj⟩ := hj; obtain ⟨l3, hj⟩ := hj; obtain ⟨l4, hj⟩ := hj; obtain ⟨l5, hj⟩ := hj; obtain ⟨l6, hj⟩ := hj; obtain ⟨l7, hj⟩ := hj; obtain ⟨l8, hj⟩ := hj; obtain ⟨l9, hj⟩ := hj; obtain ⟨l10, hj⟩ := hj; obtain ⟨l11, hj⟩ := hj; obtain ⟨l12, hj⟩ := hj; obtain ⟨l13, hj⟩ := hj; obtain ⟨t42, hj⟩ := hj; obtain ⟨t43, hj⟩ := hj; obtain ⟨t44, hj⟩ := hj; obtain ⟨t45, hj⟩ := hj; obtain ⟨t46, hj⟩ := hj; obtain ⟨t47, hj⟩ := hj; obtain ⟨t48, hj⟩ := hj; obtain ⟨t49, hj⟩ := hj; obtain ⟨t50, hj⟩ := hj; obtain ⟨t51, hj⟩ := hj; obtain ⟨t52, hj⟩ := hj; obtain ⟨t53, hj⟩ := hj; obtain ⟨t54, hj⟩ := hj; obtain ⟨t55, hj⟩ := hj; obtain ⟨h1, -⟩ := hj; subst h1; exact ⟨rfl, fun k h1 h2 => by (have h2 : k < 16 := h2); rcases (show k = 14 ∨ k = 15 by omega) with rfl | rfl <;> rfl⟩
    · intro listed a x i hj hlt hu haf; obtain ⟨l0, hj⟩ := hj
      obtain ⟨l1, hj⟩ := hj; obtain ⟨l2, hj⟩ := hj; obtain ⟨l3, hj⟩ := hj; obtain ⟨l4, hj⟩ := hj; obtain ⟨l5, hj⟩ := hj; obtain ⟨l6, hj⟩ := hj; obtain ⟨l7, hj⟩ := hj; obtain ⟨l8, hj⟩ := hj; obtain ⟨l9, hj⟩ := hj; obtain ⟨l10, hj⟩ := hj; obtain ⟨l11, hj⟩ := hj; obtain ⟨l12, hj⟩ := hj; obtain ⟨l13, hj⟩ := hj; obtain ⟨t42, hj⟩ := hj; obtain ⟨t43, hj⟩ := hj; obtain ⟨t44, hj⟩ := hj; obtain ⟨t45, hj⟩ := hj; obtain ⟨t46, hj⟩ := hj; obtain ⟨t47, hj⟩ := hj; obtain ⟨t48, hj⟩ := hj; obtain ⟨t49, hj⟩ := hj; obtain ⟨t50, hj⟩ := hj; obtain ⟨t51, hj⟩ := hj; obtain ⟨t52, hj⟩ := hj; obtain ⟨t53, hj⟩ := hj; obtain ⟨t54, hj⟩ := hj; obtain ⟨t55, hj⟩ := hj; obtain ⟨hl_, hj⟩ := hj; obtain ⟨ha_, hj⟩ := hj; obtain ⟨H0, hj⟩ := hj; obtain ⟨H1, hj⟩ := hj; obtain ⟨H2, hj⟩ := hj; obtain ⟨H3, hj⟩ := hj; obtain ⟨H4, hj⟩ := hj; obtain ⟨H5, hj⟩ := hj; obtain ⟨H6, hj⟩ := hj; obtain ⟨H7, hj⟩ := hj; obtain ⟨H8, hj⟩ := hj; obtain ⟨H9, hj⟩ := hj; obtain ⟨H10, hj⟩ := hj; obtain ⟨H11, hj⟩ := hj; obtain ⟨H12, hj⟩ := hj; obtain ⟨H13, hj⟩ := hj; have HS := hj; clear hj; subst hl_; subst ha_; rcases (show ∀ i : Nat, i < 14 → (i = 0 ∨ i = 1 ∨ i = 2 ∨ i = 3 ∨ i = 4 ∨ i = 5 ∨ i = 6 ∨ i = 7 ∨ i = 8 ∨ i = 9 ∨ i = 10 ∨ i = 11 ∨ i = 12 ∨ i = 13) by decide) i hlt with rfl | rfl | rfl | rfl | rfl | rfl | rfl | rfl | rfl | rfl | rfl | rfl | rfl | rfl
      · have haf := haf _ rfl; clear haf
        have hu : l0 = false := hu
        refine wpOp_of_list_any rfl fun QQ hQ => ?_
        have hQQ := Lib.hid hQ; clear hQ; simp only [List.getElem_toArray, List.getElem_cons_zero]
        go_wp2_with fail
        exact hQQ.out _ _ ⟨true, l1, l2, l3, l4, l5, l6, l7, l8, l9, l10, l11, l12, l13, _, _, _, _, _, _, _, _, _, _, _, _, _, _, rfl, rfl, Lib.hid (fun _ => rfl), H1, H2, H3, H4, H5, H6, H7, H8, H9, H10, H11, H12, H13, HS⟩
      · have haf := haf _ rfl; clear haf
        have hu : l1 = false := hu
        refine wpOp_of_list_any rfl fun QQ hQ => ?_
        have hQQ := Lib.hid hQ; clear hQ; simp only [List.getElem_toArray, List.getElem_cons_zero, List.getElem_cons_succ]
        go_wp2_with fail
        exact hQQ.out _ _ ⟨l0, true, l2, l3, l4, l5, l6, l7, l8, l9, l10, l11, l12, l13, _, _, _, _, _, _, _, _, _, _, _, _, _, _, rfl, rfl, H0, Lib.hid (fun _ => rfl), H2, H3, H4, H5, H6, H7, H8, H9, H10, H11, H12, H13, HS⟩
      · have haf := haf _ rfl; clear haf
        have hu : l2 = false := hu
        refine wpOp_of_list_any rfl fun QQ hQ => ?_
        have hQQ := Lib.hid hQ; clear hQ; simp only [List.getElem_toArray, List.getElem_cons_zero, List.getElem_cons_succ]
        go_wp2_with fail
        exact hQQ.out _ _ ⟨l0, l1, true, l3, l4, l5, l6, l7, l8, l9, l10, l11, l12, l13, _, _, _, _, _, _, _, _, _, _, _, _, _, _, rfl, rfl, H0, H1, Lib.hid (fun _ => rfl), H3, H4, H5, H6, H7, H8, H9, H10, H11, H12, H13, HS⟩
      · have haf := haf _ rfl; have q1 : l1 = true := haf ⟨1, Go.Ground.data⟩ (by simp) rfl
        have q2 : l2 = true := haf ⟨2, Go.Ground.data⟩ (by simp) rfl
        clear haf; have hu : l3 = false := hu
        have e1 := (H1.out q1)
        subst e1; clear H1; have e2 := (H2.out q2)
        subst e2; clear H2; refine wpOp_of_list_any rfl fun QQ hQ => ?_
        have hQQ := Lib.hid hQ; clear hQ; simp only [List.getElem_toArray, List.getElem_cons_zero, List.getElem_cons_succ]
        go_wp2_with fail
        exact hQQ.out _ _ ⟨l0, l1, l2, true, l4, l5, l6, l7, l8, l9, l10, l11, l12, l13, _, _, _, _, _, _, _, _, _, _, _, _, _, _, rfl, rfl, H0, Lib.hid (fun _ => rfl), Lib.hid (fun _ => rfl), Lib.hid (fun _ => rfl), H4, H5, H6, H7, H8, H9, H10, H11, H12, H13, HS⟩
      · have haf := haf _ rfl; have q3 : l3 = true := haf ⟨3, Go.Ground.data⟩ (by simp) rfl
        clear haf; have hu : l4 = false := hu
        have e3 := (H3.out q3)
        subst e3; clear H3; have hzc : x.cell? ⟨U, k, none⟩ = some (.slice (some ⟨Z, 0, none⟩) (j + 1) cq) := (HS.out.below.cell (p := ⟨U, k, none⟩) (show U < wa.heap.size from Nat.lt_of_lt_of_le HUB.out HK.out.size)).trans HZC.out
        refine wpOp_of_list_any rfl fun QQ hQ => ?_
        have hQQ := Lib.hid hQ; clear hQ; simp only [List.getElem_toArray, List.getElem_cons_zero, List.getElem_cons_succ]
        go_wp2_with fail
        exact hQQ.out _ _ ⟨l0, l1, l2, l3, true, l5, l6, l7, l8, l9, l10, l11, l12, l13, _, _, _, _, _, _, _, _, _, _, _, _, _, _, rfl, rfl, H0, H1, H2, Lib.hid (fun _ => rfl), Lib.hid (fun _ => rfl), H5, H6, H7, H8, H9, H10, H11, H12, H13, HS⟩
      · have haf := haf _ rfl; clear haf
        have hu : l5 = false := hu
        refine wpOp_of_list_any rfl fun QQ hQ => ?_
        have hQQ := Lib.hid hQ; clear hQ; simp only [List.getElem_toArray, List.getElem_cons_zero, List.getElem_cons_succ]
        go_wp2_with fail
        exact hQQ.out _ _ ⟨l0, l1, l2, l3, l4, true, l6, l7, l8, l9, l10, l11, l12, l13, _, _, _, _, _, _, _, _, _, _, _, _, _, _, rfl, rfl, H0, H1, H2, H3, H4, Lib.hid (fun _ => rfl), H6, H7, H8, H9, H10, H11, H12, H13, HS⟩
      · have haf := haf _ rfl; clear haf
        have hu : l6 = false := hu
        refine wpOp_of_list_any rfl fun QQ hQ => ?_
        have hQQ := Lib.hid hQ; clear hQ; simp only [List.getElem_toArray, List.getElem_cons_zero, List.getElem_cons_succ]
        go_wp2_with fail
        exact hQQ.out _ _ ⟨l0, l1, l2, l3, l4, l5, true, l7, l8, l9, l10, l11, l12, l13, _, _, _, _, _, _, _, _, _, _, _, _, _, _, rfl, rfl, H0, H1, H2, H3, H4, H5, Lib.hid (fun _ => rfl), H7, H8, H9, H10, H11, H12, H13, HS⟩
      · have haf := haf _ rfl; have q5 : l5 = true := haf ⟨5, Go.Ground.data⟩ (by simp) rfl
        have q6 : l6 = true := haf ⟨6, Go.Ground.data⟩ (by simp) rfl
        clear haf; have hu : l7 = false := hu
        have e5 := (H5.out q5)
        subst e5; clear H5; have e6 := (H6.out q6)
        subst e6; clear H6; refine wpOp_of_list_any rfl fun QQ hQ => ?_
        have hQQ := Lib.hid hQ; clear hQ; simp only [List.getElem_toArray, List.getElem_cons_zero, List.getElem_cons_succ]
        go_wp2_with fail
        exact hQQ.out _ _ ⟨l0, l1, l2, l3, l4, l5, l6, true, l8, l9, l10, l11, l12, l13, _, _, _, _, _, _, _, _, _, _, _, _, _, _, rfl, rfl, H0, H1, H2, H3, H4, Lib.hid (fun _ => rfl), Lib.hid (fun _ => rfl), Lib.hid (fun _ => rfl), H8, H9, H10, H11, H12, H13, HS⟩
      · have haf := haf _ rfl; have q7 : l7 = true := haf ⟨7, Go.Ground.data⟩ (by simp) rfl
        clear haf; have hu : l8 = false := hu
        have e7 := (H7.out q7)
        subst e7; clear H7; have hzc : x.cell? ⟨U, k, none⟩ = some (.slice (some ⟨Z, 0, none⟩) (j + 1) cq) := (HS.out.below.cell (p := ⟨U, k, none⟩) (show U < wa.heap.size from Nat.lt_of_lt_of_le HUB.out HK.out.size)).trans HZC.out
        refine wpOp_of_list_any rfl fun QQ hQ => ?_
        have hQQ := Lib.hid hQ; clear hQ; simp only [List.getElem_toArray, List.getElem_cons_zero, List.getElem_cons_succ]
        go_wp2_with fail
        exact hQQ.out _ _ ⟨l0, l1, l2, l3, l4, l5, l6, l7, true, l9, l10, l11, l12, l13, _, _, _, _, _, _, _, _, _, _, _, _, _, _, rfl, rfl, H0, H1, H2, H3, H4, H5, H6, Lib.hid (fun _ => rfl), Lib.hid (fun _ => rfl), H9, H10, H11, H12, H13, HS⟩
      · have haf := haf _ rfl; have q8 : l8 = true := haf ⟨8, Go.Ground.data⟩ (by simp) rfl
        clear haf; have hu : l9 = false := hu
        have e8 := (H8.out q8)
        subst e8; clear H8; refine wpOp_of_list_any rfl fun QQ hQ => ?_
        have hQQ := Lib.hid hQ; clear hQ; simp only [List.getElem_toArray, List.getElem_cons_zero, List.getElem_cons_succ]
        go_wp2_with fail
        exact hQQ.out _ _ ⟨l0, l1, l2, l3, l4, l5, l6, l7, l8, true, l10, l11, l12, l13, _, _, _, _, _, _, _, _, _, _, _, _, _, _, rfl, rfl, H0, H1, H2, H3, H4, H5, H6, H7, Lib.hid (fun _ => rfl), Lib.hid (fun _ => rfl), H10, H11, H12, H13, HS⟩
      · have haf := haf _ rfl; have q9 : l9 = true := haf ⟨9, Go.Ground.data⟩ (by simp) rfl
        clear haf; have hu : l10 = false := hu
        have e9 := (H9.out q9)
        subst e9; clear H9; have hjs : (j : Int) + 1 - 1 = (j : Int) := by omega
        refine wpOp_of_list_any rfl fun QQ hQ => ?_
        have hQQ := Lib.hid hQ; clear hQ; simp only [List.getElem_toArray, List.getElem_cons_zero, List.getElem_cons_succ]
        go_wp2_with fail
        exact hQQ.out _ _ ⟨l0, l1, l2, l3, l4, l5, l6, l7, l8, l9, true, l11, l12, l13, _, _, _, _, _, _, _, _, _, _, _, _, _, _, rfl, rfl, H0, H1, H2, H3, H4, H5, H6, H7, H8, Lib.hid (fun _ => rfl), Lib.hid (fun _ => rfl), H11, H12, H13, HS⟩
      · have haf := haf _ rfl; have q4 : l4 = true := haf ⟨4, Go.Ground.data⟩ (by simp) rfl
        have q10 : l10 = true := haf ⟨10, Go.Ground.data⟩ (by simp) rfl
        clear haf; have hu : l11 = false := hu
        have e4 := (H4.out q4)
        subst e4; clear H4; have e10 := (H10.out q10)
        subst e10; clear H10; refine wpOp_of_list_any rfl fun QQ hQ => ?_
        have hQQ := Lib.hid hQ; clear hQ; simp only [List.getElem_toArray, List.getElem_cons_zero, List.getElem_cons_succ]
        go_wp2_with fail
        exact hQQ.out _ _ ⟨l0, l1, l2, l3, l4, l5, l6, l7, l8, l9, l10, true, l12, l13, _, _, _, _, _, _, _, _, _, _, _, _, _, _, rfl, rfl, H0, H1, H2, H3, Lib.hid (fun _ => rfl), H5, H6, H7, H8, H9, Lib.hid (fun _ => rfl), Lib.hid (fun _ => rfl), H12, H13, HS⟩
      · have haf := haf _ rfl; have q11 : l11 = true := haf ⟨11, Go.Ground.data⟩ (by simp) rfl
        clear haf; have hu : l12 = false := hu
        have e11 := (H11.out q11)
        subst e11; clear H11; have hzk0 : x.cell? ⟨Z, j * 6, none⟩ = some (.string y.cls) := (show RowS w1.heap.size x (.slice (some ⟨Z, 0, none⟩) (j + 1) cq) z.2 from ownsRow_below HZR2.out HS.out.below).cell j 0 y _ HY.out (by decide) rfl
        have hzk1 : x.cell? ⟨Z, j * 6 + 1, none⟩ = some (.int .i64 y.tim.weeks) := (show RowS w1.heap.size x (.slice (some ⟨Z, 0, none⟩) (j + 1) cq) z.2 from ownsRow_below HZR2.out HS.out.below).cell j 1 y _ HY.out (by decide) rfl
        have hzk2 : x.cell? ⟨Z, j * 6 + 2, none⟩ = some (.int .i64 y.tim.day) := (show RowS w1.heap.size x (.slice (some ⟨Z, 0, none⟩) (j + 1) cq) z.2 from ownsRow_below HZR2.out HS.out.below).cell j 2 y _ HY.out (by decide) rfl
        have hzk3 : x.cell? ⟨Z, j * 6 + 3, none⟩ = some (.int .i64 y.tim.start) := (show RowS w1.heap.size x (.slice (some ⟨Z, 0, none⟩) (j + 1) cq) z.2 from ownsRow_below HZR2.out HS.out.below).cell j 3 y _ HY.out (by decide) rfl
        have hzk4 : x.cell? ⟨Z, j * 6 + 4, none⟩ = some (.int .i64 y.tim.len) := (show RowS w1.heap.size x (.slice (some ⟨Z, 0, none⟩) (j + 1) cq) z.2 from ownsRow_below HZR2.out HS.out.below).cell j 4 y _ HY.out (by decide) rfl
        have hzk5 : x.cell? ⟨Z, j * 6 + 5, none⟩ = some (.string y.room) := (show RowS w1.heap.size x (.slice (some ⟨Z, 0, none⟩) (j + 1) cq) z.2 from ownsRow_below HZR2.out HS.out.below).cell j 5 y _ HY.out (by decide) rfl
        refine wpOp_of_list_any rfl fun QQ hQ => ?_
        have hQQ := Lib.hid hQ; clear hQ; simp only [List.getElem_toArray, List.getElem_cons_zero, List.getElem_cons_succ]
        go_wp2_with fail
        exact hQQ.out _ _ ⟨l0, l1, l2, l3, l4, l5, l6, l7, l8, l9, l10, l11, true, l13, _, _, _, _, _, _, _, _, _, _, _, _, _, _, rfl, rfl, H0, H1, H2, H3, H4, H5, H6, H7, H8, H9, H10, Lib.hid (fun _ => rfl), Lib.hid (fun _ => rfl), H13, HS⟩
      · have haf := haf _ rfl; have q12 : l12 = true := haf ⟨12, Go.Ground.data⟩ (by simp) rfl
        clear haf; have hu : l13 = false := hu
        have e12 := (H12.out q12)
        subst e12; clear H12; refine wpOp_of_list_any rfl fun QQ hQ => ?_
        have hQQ := Lib.hid hQ; clear hQ; simp only [List.getElem_toArray, List.getElem_cons_zero, List.getElem_cons_succ]
        go_wp2_with fail
        exact hQQ.out _ _ ⟨l0, l1, l2, l3, l4, l5, l6, l7, l8, l9, l10, l11, l12, true, _, _, _, _, _, _, _, _, _, _, _, _, _, _, rfl, rfl, H0, H1, H2, H3, H4, H5, H6, H7, H8, H9, H10, H11, Lib.hid (fun _ => rfl), Lib.hid (fun _ => ⟨_, rfl, HS.out.below.size, Blk.new x _ _⟩), Lib.hid (HS.out.alloc _)⟩
    · intro listed a x hj hall; obtain ⟨l0, hj⟩ := hj
      obtain ⟨l1, hj⟩ := hj; obtain ⟨l2, hj⟩ := hj; obtain ⟨l3, hj⟩ := hj; obtain ⟨l4, hj⟩ := hj; obtain ⟨l5, hj⟩ := hj; obtain ⟨l6, hj⟩ := hj; obtain ⟨l7, hj⟩ := hj; obtain ⟨l8, hj⟩ := hj; obtain ⟨l9, hj⟩ := hj; obtain ⟨l10, hj⟩ := hj; obtain ⟨l11, hj⟩ := hj; obtain ⟨l12, hj⟩ := hj; obtain ⟨l13, hj⟩ := hj; obtain ⟨t42, hj⟩ := hj; obtain ⟨t43, hj⟩ := hj; obtain ⟨t44, hj⟩ := hj; obtain ⟨t45, hj⟩ := hj; obtain ⟨t46, hj⟩ := hj; obtain ⟨t47, hj⟩ := hj; obtain ⟨t48, hj⟩ := hj; obtain ⟨t49, hj⟩ := hj; obtain ⟨t50, hj⟩ := hj; obtain ⟨t51, hj⟩ := hj; obtain ⟨t52, hj⟩ := hj; obtain ⟨t53, hj⟩ := hj; obtain ⟨t54, hj⟩ := hj; obtain ⟨t55, hj⟩ := hj; obtain ⟨hl_, hj⟩ := hj; obtain ⟨ha_, hj⟩ := hj; obtain ⟨H0, hj⟩ := hj; obtain ⟨H1, hj⟩ := hj; obtain ⟨H2, hj⟩ := hj; obtain ⟨H3, hj⟩ := hj; obtain ⟨H4, hj⟩ := hj; obtain ⟨H5, hj⟩ := hj; obtain ⟨H6, hj⟩ := hj; obtain ⟨H7, hj⟩ := hj; obtain ⟨H8, hj⟩ := hj; obtain ⟨H9, hj⟩ := hj; obtain ⟨H10, hj⟩ := hj; obtain ⟨H11, hj⟩ := hj; obtain ⟨H12, hj⟩ := hj; obtain ⟨H13, hj⟩ := hj; have HS := hj; clear hj; subst hl_; subst ha_; have q0 : l0 = true := hall 0 (by omega)
      have q13 : l13 = true := hall 13 (by omega)
      clear hall; have e0 := (H0.out q0)
      subst e0; obtain ⟨g13, e13, c13_0, c13_1⟩ := (H13.out q13)
      subst e13; have hRx : RowS w2.heap.size x (.slice pr xs.length cr) xs := ownsRow_below HR.out HS.out.below
      have hsx := HS.out.below.size; have hk2 := HK.out.size; refine tail_any (fun a x => ∃ (t10 t42 t43 t44 t45 t46 t47 t48 t49 t50 t51 t52 t53 t54 t55 t56 : Value), a = ⟨(.agg #[.string s.cls, .int .i64 s.tim.weeks, .int .i64 s.tim.day, .int .i64 s.tim.start, .int .i64 s.tim.len, .string s.room] :: .int .i64 q :: .slice ao len cap :: .pointer (some ⟨X, 0, none⟩) :: undef :: undef :: .bool false :: .pointer (some ⟨G, 0, none⟩) :: .pointer (some ⟨T, 0, none⟩) :: .slice (some ⟨U, 0, none⟩) ls.length cu :: t10 :: .int .i64 k :: undef :: undef :: undef :: undef :: undef :: .slice ao len cap :: .bool true :: .bool false :: undef :: .tuple #[.agg #[.int .i64 g.days, .int .i64 g.slots, .int .i64 g.begin_, .int .i64 g.mins], .agg #[.int .i64 t.first, .int .i64 t.weeks, .slice pt t.hols.length ct], .slice (some ⟨U, 0, none⟩) ls.length cu] :: .slice ao len cap :: .pointer (some ⟨b, 0, none⟩) :: .tuple #[.agg #[.int .i64 g.days, .int .i64 g.slots, .int .i64 g.begin_, .int .i64 g.mins], .agg #[.int .i64 t.first, .int .i64 t.weeks, .slice pt t.hols.length ct], .slice (some ⟨U, 0, none⟩) ls.length cu] :: .agg #[.int .i64 g.days, .int .i64 g.slots, .int .i64 g.begin_, .int .i64 g.mins] :: .agg #[.int .i64 t.first, .int .i64 t.weeks, .slice pt t.hols.length ct] :: .slice (some ⟨U, 0, none⟩) ls.length cu :: .agg #[.string s.cls, .int .i64 s.tim.weeks, .int .i64 s.tim.day, .int .i64 s.tim.start, .int .i64 s.tim.len, .string s.room] :: .slice (some ⟨w3.heap.size, 0, none⟩) 1 1 :: .int .i64 k :: .slice (some ⟨U, 0, none⟩) ls.length cu :: .int .i64 ls.length :: .bool true :: u34 :: u35 :: .slice (some ⟨U, 0, none⟩) ls.length cu :: .int .i64 k :: .pointer (some ⟨U, k, none⟩) :: .slice (some ⟨Z, 0, none⟩) (j + 1) cq :: .int .i64 ((j : Int) + 1) :: .bool true :: t42 :: t43 :: t44 :: t45 :: t46 :: t47 :: t48 :: t49 :: t50 :: t51 :: t52 :: t53 :: t54 :: t55 :: t56 :: undef :: undef :: undef :: undef :: undef :: undef :: undef :: undef :: undef :: undef :: undef :: undef :: undef :: undef :: undef :: undef :: undef :: undef :: undef :: undef :: undef :: undef :: undef :: undef :: undef :: undef :: undef :: undef :: undef :: undef :: undef :: undef :: undef :: undef :: undef :: undef :: undef :: undef :: []).toArray, []⟩ ∧ ∃ v : Value, t10 = v ∧ RowS w2.heap.size x v (xs ++ [y]) ∧ Below w2.heap.size w2 x ∧ Blk G #[.int .i64 g.days, .int .i64 g.slots, .int .i64 g.begin_, .int .i64 g.mins] 90 x ∧ Blk T #[.int .i64 t.first, .int .i64 t.weeks, .slice pt t.hols.length ct] 93 x) ?_ fun QQ hQ => ?_
      · intro a x hpost; obtain ⟨t10, hpost⟩ := hpost
        obtain ⟨t42, hpost⟩ := hpost; obtain ⟨t43, hpost⟩ := hpost; obtain ⟨t44, hpost⟩ := hpost; obtain ⟨t45, hpost⟩ := hpost; obtain ⟨t46, hpost⟩ := hpost; obtain ⟨t47, hpost⟩ := hpost; obtain ⟨t48, hpost⟩ := hpost; obtain ⟨t49, hpost⟩ := hpost; obtain ⟨t50, hpost⟩ := hpost; obtain ⟨t51, hpost⟩ := hpost; obtain ⟨t52, hpost⟩ := hpost; obtain ⟨t53, hpost⟩ := hpost; obtain ⟨t54, hpost⟩ := hpost; obtain ⟨t55, hpost⟩ := hpost; obtain ⟨t56, hpost⟩ := hpost; obtain ⟨ha_, hpost⟩ := hpost; subst ha_; obtain ⟨v, rfl, hr, hk8, hg8, ht8⟩ := hpost; have HR9 := Lib.hid hr; have HK9 := Lib.hid hk8; have HG9 := Lib.hid hg8; have HT9 := Lib.hid ht8; clear hr hk8 hg8 ht8; go_wp2_with fail
        go_roundw
        case rel => exact ⟨k + 1, xs ++ [y], by go_num, by have := HLT.out; omega, by rw [List.length_append]; simp; omega, HR9, HK9, HG9, HT9⟩
        case measure => simp [intOf]; have := HLT.out; omega
      have hQQ := Lib.hid hQ; clear hQ; simp only [List.drop_succ_cons, List.drop_zero]
      go_wp2_with (at_builtin; refine wpList_append_own_at _ rfl (.tmp 42) (.tmp 55) 110 rfl w2.heap.size 107 i0 _ 6 64 Tryz.underlying110 hii hz0 hz1 hz2 rfl (by decide) _ _ _ rfl hRx ⟨g13, 0, none⟩ 1 1 (sesCells y).toList rfl rfl (blk_cells c13_1) (sL_cell1 y) (by unfold maxLen; omega) (by omega) (by omega) ?_)
      intro v8 x8 hown8 hgrow _ hat; have HK8 := Lib.hid (below_grownBy (HK.out.trans (HS.out.below.mono hk2)) hRx (Nat.le_refl _) (by omega) hgrow)
      have HR8 := Lib.hid (show RowS w2.heap.size x8 v8 (xs ++ [y]) from RowS.snoc hown8)
      have HG8 := Lib.hid ((HG.out.below HS.out.below HG.out.lt).grown hRx hgrow (by decide))
      have HT8 := Lib.hid ((HT.out.below HS.out.below HT.out.lt).grown hRx hgrow (by decide))
      clear hown8 hgrow hat hRx; go_wp2_with fail
      exact hQQ.out _ _ ⟨_, _, _, _, _, _, _, _, _, _, _, _, _, _, _, _, rfl, _, rfl, HR8.out, HK8.out, HG8.out, HT8.out⟩
end Go.Proofs.YtageielcdebjlaaGreatDoor
