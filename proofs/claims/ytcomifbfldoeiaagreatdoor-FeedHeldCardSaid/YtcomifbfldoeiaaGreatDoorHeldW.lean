/- FeedHeld's calls: changes.At, calendar.Where, recurrence.Holds. -/
import Derived.Test.YtcomifbfldoeiaaGreatDoorHeldP
import Derived.Test.YtcomifbfldoeiaaGreatDoorPk13
import Derived.Test.YtcomifbfldoeiaaGreatDoorDaysAll
import Derived.Test.YtcomifbfldoeiaaGreatDoorChgV
import Derived.Test.YtcomifbfldoeiaaGreatDoorChgO
namespace Go.Proofs.YtcomifbfldoeiaaGreatDoor
open Go.RowKit

set_option maxHeartbeats 4000000 in
set_option maxRecDepth 100000 in
theorem where46 (t : Tt.Trm) (ao : Option Addr) (c : Nat) (x : Int) (w : World) (hI : Ints w.heap.size w ao t.hols) (hn : t.hols.length ≤ 4611686018427387903) (htv : Tt.trmV t = 0) (h0 : t.first ≤ x) (h1 : x ≤ Tt.lastT t) : Calls Tryz.prog 46 #[trmVal t (.slice ao t.hols.length c), .int .i64 x] w fun e w' => ∃ a b : Int, e = .returned (.tuple #[.int .i64 a, .int .i64 b, .bool (!decide (x ∈ t.hols))]) ∧ (x ∉ t.hols → b = Tt.wkdV x) ∧ Below w.heap.size w w' := by
  obtain ⟨P, hP⟩ : ∃ P, P = w.heap.size := ⟨_, rfl⟩
  obtain ⟨W, hW⟩ : ∃ W, W = w.alloc (.cells #[.int .i64 t.first, .int .i64 t.weeks, .slice ao t.hols.length c] 94) := ⟨_, rfl⟩
  have HBW := Lib.hid (show Below w.heap.size w W from by rw [hW]; exact below_box w _)
  have HPW := Lib.hid (show Blk P #[.int .i64 t.first, .int .i64 t.weeks, .slice ao t.hols.length c] 94 W from by rw [hW, hP]; exact Blk.new w _ _)
  have HIW := Lib.hid (show Ints w.heap.size W ao t.hols from hI.below HBW.out)
  have hBW : w.heap.size ≤ W.heap.size := HBW.out.size
  obtain ⟨T, hT⟩ : ∃ T, T = Tt.trmV t := ⟨_, rfl⟩
  obtain ⟨LT, hLT⟩ : ∃ LT, LT = Tt.lastT t := ⟨_, rfl⟩
  obtain ⟨f0, f1, f2, f3, f4, f5⟩ := Tt.trmV_ok htv
  have HC1 := Lib.hid (show ∀ X, Below W.heap.size W X → Calls Tryz.prog 79 #[.agg #[.int .i64 t.first, .int .i64 t.weeks, .slice ao t.hols.length c]] X fun e w' => e = .returned (.int .i64 T) ∧ Below X.heap.size X w' from fun X hX => by rw [hT]; exact trm125 t ao c w.heap.size X (Nat.le_trans hBW hX.size) (HIW.out.below (hX.mono hBW)) hn)
  have HC2 := Lib.hid (show ∀ X, Calls Tryz.prog 93 #[.agg #[.int .i64 t.first, .int .i64 t.weeks, .slice ao t.hols.length c]] X fun e w' => e = .returned (.int .i64 LT) ∧ Below X.heap.size X w' from fun X => by rw [hLT]; exact last193 t _ _ _ X f0 f1 (by omega) f3)
  have HC3 := Lib.hid (show ∀ X, Below W.heap.size W X → Calls Tryz.prog 94 #[.agg #[.int .i64 t.first, .int .i64 t.weeks, .slice ao t.hols.length c], .int .i64 x] X fun e w' => e = .returned (.bool (!decide (x ∈ t.hols))) ∧ Below X.heap.size X w' from fun X hX => free219 t ao c w.heap.size x X (Nat.le_trans hBW hX.size) (HIW.out.below (hX.mono hBW)) hn)
  obtain ⟨F, hF⟩ : ∃ F, F = decide (x ∈ t.hols) := ⟨_, rfl⟩
  rw [← hF] at HC3 ⊢
  have HF := Lib.hid hF
  have hT0 : (T != 0) = false := by rw [hT, htv]; rfl
  have g1 : ¬ x < t.first := by omega
  have hl4 : LT = t.first + 7 * t.weeks - 1 := hLT
  have g2 : ¬ LT < x := by omega
  have HBD := Lib.hid (show 0 ≤ x ∧ x ≤ 36524 ∧ 0 ≤ t.first ∧ t.first ≤ x from by rw [← hLT] at f4 h1; omega)
  unfold trmVal
  clear hI hn hT hF htv h0 h1 f0 f1 f2 f3 f4 f5 hl4 hLT
  have c0 : W.cell? ⟨P, 0, none⟩ = some (.int .i64 t.first) := HPW.out.cell 0
  have c1 : W.cell? ⟨P, 1, none⟩ = some (.int .i64 t.weeks) := HPW.out.cell 1
  have c2 : W.cell? ⟨P, 2, none⟩ = some (.slice ao t.hols.length c) := HPW.out.cell 2
  go_enter Tryz.func46, Tryz.ntmps46
  go_upto_region 1 with (fail)
  rw [← hW, ← hP]
  clear hW hP
  go_wp2_with fail
  refine (HC1.out _ (Below.refl _ _)).mono ?_
  rintro e w1 ⟨rfl, hb1⟩
  have HB1 := Lib.hid hb1
  clear hb1 c0 c1 c2
  have c0 : w1.cell? ⟨P, 0, none⟩ = some (.int .i64 t.first) := (HPW.out.below HB1.out HPW.out.lt).cell 0
  have c1 : w1.cell? ⟨P, 1, none⟩ = some (.int .i64 t.weeks) := (HPW.out.below HB1.out HPW.out.lt).cell 1
  have c2 : w1.cell? ⟨P, 2, none⟩ = some (.slice ao t.hols.length c) := (HPW.out.below HB1.out HPW.out.lt).cell 2
  go_wp2_with fail
  refine (HC2.out _).mono ?_
  rintro e w2 ⟨rfl, hb2⟩
  have HB2 := Lib.hid (HB1.out.trans (hb2.mono HB1.out.size))
  clear hb2 c0 c1 c2
  have c0 : w2.cell? ⟨P, 0, none⟩ = some (.int .i64 t.first) := (HPW.out.below HB2.out HPW.out.lt).cell 0
  have c1 : w2.cell? ⟨P, 1, none⟩ = some (.int .i64 t.weeks) := (HPW.out.below HB2.out HPW.out.lt).cell 1
  have c2 : w2.cell? ⟨P, 2, none⟩ = some (.slice ao t.hols.length c) := (HPW.out.below HB2.out HPW.out.lt).cell 2
  go_wp2_with fail
  refine (HC3.out _ HB2.out).mono ?_
  rintro e w3 ⟨rfl, hb3⟩
  have HB3 := Lib.hid (HBW.out.trans ((HB2.out.trans (hb3.mono HB2.out.size)).mono HBW.out.size))
  have HP3 := Lib.hid ((HPW.out.below HB2.out HPW.out.lt).below hb3 (HPW.out.below HB2.out HPW.out.lt).lt)
  clear hb3 c0 c1 c2
  cases F
  · have c0 : w3.cell? ⟨P, 0, none⟩ = some (.int .i64 t.first) := HP3.out.cell 0
    go_upto_region 3 with (fail)
    have hd0 : 0 ≤ x - t.first := by have := HBD.out; omega
    have hd1 : x - t.first ≤ 36524 := by have := HBD.out; omega
    go_quiet ((go_at_call 95; exact Calls.quiet_of_same (wkd191_any x _)))
    go_wp2_with fail
    go_ret3
    exact ⟨_, _, rfl, fun _ => rfl, HB3.out.trans ⟨rfl, rfl, rfl, Nat.le_refl _, fun k hk => rfl⟩⟩
  · go_wp2_with fail
    go_ret3
    exact ⟨_, _, rfl, fun h => absurd (of_decide_eq_true HF.out.symm) h, HB3.out⟩

set_option maxHeartbeats 4000000 in
set_option maxRecDepth 100000 in
theorem holds47 (s : Tt.Ser) (ao ao' : Option Addr) (c c' : Nat) (x : Int) (w : World) (hn : s.ex.length ≤ 4611686018427387902) (hn2 : s.xt.length ≤ 4611686018427387902) (hI : Ints w.heap.size w ao s.ex) (hI' : Ints w.heap.size w ao' s.xt) (hd : (Tt.serDays s).length ≤ 4611686018427387902) : Calls Tryz.prog 47 #[serVal s (.slice ao s.ex.length c) (.slice ao' s.xt.length c'), .int .i64 x] w fun e w' => e = .returned (.bool (decide (x ∈ Tt.serDays s))) ∧ Below w.heap.size w w' := by
  obtain ⟨P, hP⟩ : ∃ P, P = w.heap.size := ⟨_, rfl⟩
  obtain ⟨W, hW⟩ : ∃ W, W = w.alloc (.cells #[.int .i64 s.first, .int .i64 s.last, .int .i64 s.every, .int .i64 s.wd, .slice ao s.ex.length c, .slice ao' s.xt.length c'] 102) := ⟨_, rfl⟩
  have HBW := Lib.hid (show Below w.heap.size w W from by rw [hW]; exact below_box w _)
  have HPW := Lib.hid (show Blk P #[.int .i64 s.first, .int .i64 s.last, .int .i64 s.every, .int .i64 s.wd, .slice ao s.ex.length c, .slice ao' s.xt.length c'] 102 W from by rw [hW, hP]; exact Blk.new w _ _)
  have HC := Lib.hid (days74 s w.heap.size W (by omega) (by omega) ao ao' c c' HBW.out.size (hI.below HBW.out) (hI'.below HBW.out))
  have HD := Lib.hid hd
  unfold serVal at HC ⊢
  have c0 : W.cell? ⟨P, 0, none⟩ = some (.int .i64 s.first) := HPW.out.cell 0
  have c1 : W.cell? ⟨P, 1, none⟩ = some (.int .i64 s.last) := HPW.out.cell 1
  have c2 : W.cell? ⟨P, 2, none⟩ = some (.int .i64 s.every) := HPW.out.cell 2
  have c3 : W.cell? ⟨P, 3, none⟩ = some (.int .i64 s.wd) := HPW.out.cell 3
  have c4 : W.cell? ⟨P, 4, none⟩ = some (.slice ao s.ex.length c) := HPW.out.cell 4
  have c5 : W.cell? ⟨P, 5, none⟩ = some (.slice ao' s.xt.length c') := HPW.out.cell 5
  clear hn hn2 hI hI' hd
  go_enter Tryz.func47, Tryz.ntmps47
  go_upto_region 1 with (fail)
  rw [← hW, ← hP]
  clear hW hP
  go_wp2_with fail
  refine HC.out.mono ?_
  clear HC
  rintro e w1 ⟨v, rfl, hv, hb1⟩
  obtain ⟨p, q, hpq⟩ := RowI.slice hv
  subst hpq
  have HV := Lib.hid (show Ints w1.heap.size w1 p (Tt.serDays s) from RowI.ao hv)
  have HB1 := Lib.hid (HBW.out.trans (hb1.mono HBW.out.size))
  clear hv hb1 c0 c1 c2 c3 c4 c5
  go_wp2_with (go_at_call 96; (with_reducible refine (contains148 w1.heap.size p q (Tt.serDays s) x w1 HV.out (by have := HD.out; omega)).mono ?_); rintro e wz ⟨rfl, hwz⟩; rw [hwz]; clear hwz wz)
  go_ret
  exact ⟨rfl, HB1.out⟩
/-- What At hands back. -/
def atVal : Option Ses → Value × Bool
  | some s => (sesVal s, true)
  | none => (.agg #[.string ⟨#[]⟩, .int .i64 0, .int .i64 0, .int .i64 0, .int .i64 0, .string ⟨#[]⟩], false)
set_option maxHeartbeats 4000000 in
set_option maxRecDepth 100000 in
theorem at45 (l : List Ses) (pl : Option Addr) (c : Nat) (u : ByteArray) (k : Int) (w : World) (hS : SesAt w.heap.size w pl l) (hn : l.length ≤ 4611686018427387902) (hk0 : 1 ≤ k) (hk1 : k ≤ 20) (hw : ∀ s ∈ l, 0 ≤ s.tim.weeks ∧ s.tim.weeks < 4611686018427387904) : Calls Tryz.prog 45 #[.slice pl l.length c, .string u, .int .i64 k] w fun e w' => e = .returned (.tuple #[(atVal (atS l u k)).1, .bool (atVal (atS l u k)).2]) ∧ Below w.heap.size w w' := by
  obtain ⟨R, hR⟩ : ∃ R, R = w.heap.size := ⟨_, rfl⟩
  obtain ⟨W, hW⟩ : ∃ W, W = w.alloc (.cells #[.string ⟨#[]⟩, .int .i64 0, .int .i64 0, .int .i64 0, .int .i64 0, .string ⟨#[]⟩] 110) := ⟨_, rfl⟩
  have HBW := Lib.hid (show Below w.heap.size w W from by rw [hW]; exact below_box w _)
  have HRB := Lib.hid (show Blk R #[.string ⟨#[]⟩, .int .i64 0, .int .i64 0, .int .i64 0, .int .i64 0, .string ⟨#[]⟩] 110 W from by rw [hW, hR]; exact Blk.new w _ _)
  have HRg := Lib.hid (show w.heap.size ≤ R by omega)
  have HS := Lib.hid hS
  have HW := Lib.hid hw
  have HA0 := Lib.hid (show atS l u k = atS (l.drop 0) u k from rfl)
  obtain ⟨n, hln⟩ : ∃ n, n = l.length := ⟨_, rfl⟩
  have HLN := Lib.hid hln
  rw [← hln] at hn ⊢
  have g1 : ¬ k < 1 := by omega
  have g2 : ¬ 20 < k := by omega
  have hkm0 : 0 ≤ k - 1 := by omega
  clear hS hw hln
  go_enter Tryz.func45, Tryz.ntmps45
  go_upto_region 1 with (fail)
  rw [← hW, ← hR]
  clear hW hR
  go_wp2_with fail
  go_loopw [19] (fun iv wr => ∃ i : Nat, iv = .int .i64 i ∧ i ≤ n ∧ Hid (atS l u k = atS (l.drop i) u k) ∧ Hid (Below W.heap.size W wr)) (fun iv _ => n - (intOf iv).toNat)
  case atStart => exact ⟨0, rfl, Nat.zero_le _, HA0, Lib.hid (Below.refl _ _)⟩
  case round =>
    obtain ⟨i, rfl, hi, HA, HB⟩ := hrel
    by_cases hlt : i < n
    rotate_left
    · skip
      have hii : ¬ (i : Int) < (n : Int) := by omega
      have HN := Lib.hid (show atS l u k = none from by rw [HA.out, List.drop_eq_nil_of_le (by have := HLN.out; omega)]; rfl)
      have HRr := Lib.hid (HRB.out.below HB.out HRB.out.lt)
      have r0 := HRr.out.frozen 0
      have r1 := HRr.out.frozen 1
      have r2 := HRr.out.frozen 2
      have r3 := HRr.out.frozen 3
      have r4 := HRr.out.frozen 4
      have r5 := HRr.out.frozen 5
      have z0 := HRr.out.cell 0
      have z1 := HRr.out.cell 1
      have z2 := HRr.out.cell 2
      have z3 := HRr.out.cell 3
      have z4 := HRr.out.cell 4
      have z5 := HRr.out.cell 5
      simp only [List.getElem?_toArray, List.getElem?_cons_zero, List.getElem?_cons_succ] at z0 z1 z2 z3 z4 z5
      go_wp2_with fail
      obtain ⟨Y, hY, hBk, hE⟩ := fillB HRr.out (HBW.out.trans (HB.out.mono HBW.out.size)) HRg.out [.string ⟨#[]⟩, .int .i64 0, .int .i64 0, .int .i64 0, .int .i64 0, .string ⟨#[]⟩] rfl
      simp only [setAll, Nat.zero_add, Nat.reduceAdd] at hY
      rw [← hY]
      clear hY r0 r1 r2 r3 r4 r5 z0 z1 z2 z3 z4 z5
      have r0 := hBk.cell 0
      have r1 := hBk.cell 1
      have r2 := hBk.cell 2
      have r3 := hBk.cell 3
      have r4 := hBk.cell 4
      have r5 := hBk.cell 5
      simp only [List.getElem?_toArray, List.getElem?_cons_zero, List.getElem?_cons_succ] at r0 r1 r2 r3 r4 r5
      refine bodyPost_ret (v := .tuple #[.agg #[.string ⟨#[]⟩, .int .i64 0, .int .i64 0, .int .i64 0, .int .i64 0, .string ⟨#[]⟩], .bool false]) (by simp [results, Tryz.results45, go_sem, r0, r1, r2, r3, r4, r5]) rfl ?_
      rw [HN.out]
      exact ⟨rfl, hE⟩
    have hii : (i : Int) < (n : Int) := by omega
    have hi0 : (0 : Int) ≤ (i : Int) := by omega
    have hin : ((i : Int)).toNat = i := by omega
    obtain ⟨b, o, ha, hbl, hev⟩ := HS.out.form (by have := HLN.out; omega)
    subst ha
    obtain ⟨s, hs⟩ : ∃ s, l[i]? = some s := ⟨_, List.getElem?_eq_getElem (by have := HLN.out; omega)⟩
    have hbW : b < W.heap.size := Nat.lt_of_lt_of_le hbl HBW.out.size
    have HWR := Lib.hid (HBW.out.trans (HB.out.mono HBW.out.size))
    have x0 : wr.cell? ⟨b, o + i * 6, none⟩ = some (.string s.cls) := (HWR.out.cell (p := ⟨b, o + i * 6, none⟩) hbl).trans (hev i 0 s _ hs rfl)
    have x1 : wr.cell? ⟨b, o + i * 6 + 1, none⟩ = some (.int .i64 s.tim.weeks) := (HWR.out.cell (p := ⟨b, o + i * 6 + 1, none⟩) hbl).trans (hev i 1 s _ hs rfl)
    have x2 : wr.cell? ⟨b, o + i * 6 + 2, none⟩ = some (.int .i64 s.tim.day) := (HWR.out.cell (p := ⟨b, o + i * 6 + 2, none⟩) hbl).trans (hev i 2 s _ hs rfl)
    have x3 : wr.cell? ⟨b, o + i * 6 + 3, none⟩ = some (.int .i64 s.tim.start) := (HWR.out.cell (p := ⟨b, o + i * 6 + 3, none⟩) hbl).trans (hev i 3 s _ hs rfl)
    have x4 : wr.cell? ⟨b, o + i * 6 + 4, none⟩ = some (.int .i64 s.tim.len) := (HWR.out.cell (p := ⟨b, o + i * 6 + 4, none⟩) hbl).trans (hev i 4 s _ hs rfl)
    have x5 : wr.cell? ⟨b, o + i * 6 + 5, none⟩ = some (.string s.room) := (HWR.out.cell (p := ⟨b, o + i * 6 + 5, none⟩) hbl).trans (hev i 5 s _ hs rfl)
    obtain ⟨hw0, hw1⟩ := HW.out s (List.mem_of_getElem? hs)
    have HST := Lib.hid (show atS l u k = if (decide (s.cls = u) && Tt.bit s.tim.weeks (k - 1)) = true then some s else atS (l.drop (i + 1)) u k from by
      rw [HA.out]
      obtain ⟨q1, q2⟩ := List.getElem?_eq_some_iff.1 hs
      rw [List.drop_eq_getElem_cons q1, q2]
      unfold atS
      rw [List.find?_cons]
      cases (decide (s.cls = u) && Tt.bit s.tim.weeks (k - 1)) <;> rfl)
    have hbn := bit_is s.tim.weeks (k - 1) hw0 hw1
    rw [show (k - 1).toNat = k.toNat - 1 from by omega] at hbn
    clear hev hs
    obtain ⟨X, hX⟩ : ∃ x, x = wr.heap.size := ⟨_, rfl⟩
    obtain ⟨wx, hwx⟩ : ∃ x, x = wr.alloc (.cells #[.string s.cls, .int .i64 s.tim.weeks, .int .i64 s.tim.day, .int .i64 s.tim.start, .int .i64 s.tim.len, .string s.room] 110) := ⟨_, rfl⟩
    have HXB := Lib.hid (show Blk X #[.string s.cls, .int .i64 s.tim.weeks, .int .i64 s.tim.day, .int .i64 s.tim.start, .int .i64 s.tim.len, .string s.room] 110 wx from by rw [hwx, hX]; exact Blk.new wr _ _)
    have HBX := Lib.hid (show Below W.heap.size W wx from by rw [hwx]; exact HB.out.alloc HB.out.size _)
    go_upto_region 6 with (fail)
    rw [← hwx, ← hX]
    clear hwx hX x0 x1 x2 x3 x4 x5
    have y0 : wx.cell? ⟨X, 0, none⟩ = some (.string s.cls) := HXB.out.cell 0
    have y1 : wx.cell? ⟨X, 1, none⟩ = some (.int .i64 s.tim.weeks) := HXB.out.cell 1
    have y2 : wx.cell? ⟨X, 2, none⟩ = some (.int .i64 s.tim.day) := HXB.out.cell 2
    have y3 : wx.cell? ⟨X, 3, none⟩ = some (.int .i64 s.tim.start) := HXB.out.cell 3
    have y4 : wx.cell? ⟨X, 4, none⟩ = some (.int .i64 s.tim.len) := HXB.out.cell 4
    have y5 : wx.cell? ⟨X, 5, none⟩ = some (.string s.room) := HXB.out.cell 5
    by_cases hc : s.cls = u
    rotate_left
    · skip
      have hcb := ne_bytes hc
      have HN := Lib.hid (show atS l u k = atS (l.drop (i + 1)) u k from by rw [HST.out, if_neg (by simp [hc])])
      go_wp2_with fail
      go_roundw
      case rel => exact ⟨i + 1, by go_num, by omega, HN, HBX⟩
      case measure => simp [intOf]; omega
    subst hc
    cases hbt : Tt.bit s.tim.weeks (k - 1) with
    | false =>
      rw [hbt] at hbn
      have HN := Lib.hid (show atS l s.cls k = atS (l.drop (i + 1)) s.cls k from by rw [HST.out, if_neg (by simp [hbt])])
      go_wp2_with fail
      go_roundw
      case rel => exact ⟨i + 1, by go_num, by omega, HN, HBX⟩
      case measure => simp [intOf]; omega
    | true =>
      rw [hbt] at hbn
      have HN := Lib.hid (show atS l s.cls k = some s from by rw [HST.out, if_pos (by simp [hbt])])
      have HRr := Lib.hid (HRB.out.below HBX.out HRB.out.lt)
      have r0 := HRr.out.frozen 0
      have r1 := HRr.out.frozen 1
      have r2 := HRr.out.frozen 2
      have r3 := HRr.out.frozen 3
      have r4 := HRr.out.frozen 4
      have r5 := HRr.out.frozen 5
      have z0 := HRr.out.cell 0
      have z1 := HRr.out.cell 1
      have z2 := HRr.out.cell 2
      have z3 := HRr.out.cell 3
      have z4 := HRr.out.cell 4
      have z5 := HRr.out.cell 5
      simp only [List.getElem?_toArray, List.getElem?_cons_zero, List.getElem?_cons_succ] at z0 z1 z2 z3 z4 z5
      go_wp2_with fail
      obtain ⟨Y, hY, hBk, hE⟩ := fillB HRr.out (HBW.out.trans (HBX.out.mono HBW.out.size)) HRg.out [.string s.cls, .int .i64 s.tim.weeks, .int .i64 s.tim.day, .int .i64 s.tim.start, .int .i64 s.tim.len, .string s.room] rfl
      simp only [setAll, Nat.zero_add, Nat.reduceAdd] at hY
      rw [← hY]
      clear hY r0 r1 r2 r3 r4 r5 z0 z1 z2 z3 z4 z5
      have r0 := hBk.cell 0
      have r1 := hBk.cell 1
      have r2 := hBk.cell 2
      have r3 := hBk.cell 3
      have r4 := hBk.cell 4
      have r5 := hBk.cell 5
      simp only [List.getElem?_toArray, List.getElem?_cons_zero, List.getElem?_cons_succ] at r0 r1 r2 r3 r4 r5
      refine bodyPost_ret (v := .tuple #[.agg #[.string s.cls, .int .i64 s.tim.weeks, .int .i64 s.tim.day, .int .i64 s.tim.start, .int .i64 s.tim.len, .string s.room], .bool true]) (by simp [results, Tryz.results45, go_sem, r0, r1, r2, r3, r4, r5]) rfl ?_
      rw [HN.out]
      exact ⟨rfl, hE⟩
end Go.Proofs.YtcomifbfldoeiaaGreatDoor
