/- timetableref39.Same: its contract: are two series the same? timetableref40.SameEvent: its contract. timetableref41.Same and timetableref41.SameNotices: their contracts. Stretches of events in memory: their cells and what they refer to. No function of the program in sight. Condition: none. Events in a row of one's own, what they refer to in rows of its own: laid in, written over. No function of the program in sight. Condition: none. -/
import Derived.Test.YtageielcdebjlaaGreatDoorPk11
import Derived.Test.YtageielcdebjlaaGreatDoorPk13
import Derived.StillTailTactics
import Derived.Test.YtageielcdebjlaaGreatDoorProg
import Derived.WalkKit
import Derived.Lib.Hide
import Derived.Deep.QuietTactic
import Derived.BigQuiet
import Derived.Deep.RegionLaw
import Derived.Laws.CopyRow
import Derived.Laws.CopyOwn
import Derived.Laws.IdiomCopy
import Derived.Lib.AppendZerosOnto
import Derived.Lib.Overlaps
import Derived.Maps.AppendAt
import Derived.Laws.Externs
import Derived.Laws.NewBlocks
namespace Go.Proofs.YtageielcdebjlaaGreatDoor
open Go.RowKit

theorem list_parts {xs ys : List Int} {n : Nat} (hx : xs.length = n) (hy : ys.length = n) (h : ∀ j, j < n → xs[j]? = ys[j]?) : xs = ys := by
  apply List.ext_getElem?
  intro j; rcases Nat.lt_or_ge j n with hj | hj
  · exact h j hj
  · rw [List.getElem?_eq_none (by omega), List.getElem?_eq_none (by omega)]

set_option maxHeartbeats 4000000 in
set_option maxRecDepth 100000 in
theorem sameser142 (s t : Tt.Ser) (B : Nat) (w : World) (p1 p2 p3 p4 : Option Addr) (c1 c2 c3 c4 : Nat) (hB : B ≤ w.heap.size) (hI1 : Ints B w p1 s.ex) (hI2 : Ints B w p2 s.xt) (hI3 : Ints B w p3 t.ex) (hI4 : Ints B w p4 t.xt) (hn1 : s.ex.length ≤ 4611686018427387903) (hn2 : s.xt.length ≤ 4611686018427387903) :
    Calls Tryz.prog 142 #[serVal s (.slice p1 s.ex.length c1) (.slice p2 s.xt.length c2), serVal t (.slice p3 t.ex.length c3) (.slice p4 t.xt.length c4)] w fun e w' => e = .returned (.bool (decide (s = t))) ∧ Below w.heap.size w w' := by
  obtain ⟨f, l, e, m, ex, xt⟩ := s; obtain ⟨f', l', e', m', ex', xt'⟩ := t; simp only at *
  have HI1 := Lib.hid hI1; have HI2 := Lib.hid hI2; have HI3 := Lib.hid hI3; have HI4 := Lib.hid hI4; clear hI1 hI2 hI3 hI4; unfold serVal
  by_cases hq : f = f' ∧ l = l' ∧ e = e' ∧ m = m' ∧ ex.length = ex'.length ∧ xt.length = xt'.length
  · obtain ⟨rfl, rfl, rfl, rfl, hl1, hl2⟩ := hq; rw [← hl1, ← hl2]
    obtain ⟨n, hn⟩ : ∃ n, n = ex.length := ⟨_, rfl⟩
    obtain ⟨o, ho⟩ : ∃ o, o = xt.length := ⟨_, rfl⟩
    rw [← hn] at hn1 hl1 ⊢
    rw [← ho] at hn2 hl2 ⊢
    have HN := Lib.hid hn; have HO := Lib.hid ho; have HL1 := Lib.hid hl1; have HL2 := Lib.hid hl2; clear hn ho hl1 hl2; have S0 : SerAt w.heap.size ⟨f, l, e, m, ex, xt⟩ (.slice p1 n c1) (.slice p2 o c2) (w.alloc (.cells #[.int .i64 f, .int .i64 l, .int .i64 e, .int .i64 m, .slice p1 n c1, .slice p2 o c2] 80)) := heap_alloc_new w _
    have T0 : SerAt (w.heap.size + 1) ⟨f, l, e, m, ex', xt'⟩ (.slice p3 n c3) (.slice p4 o c4) ((w.alloc (.cells #[.int .i64 f, .int .i64 l, .int .i64 e, .int .i64 m, .slice p1 n c1, .slice p2 o c2] 80)).alloc (.cells #[.int .i64 f, .int .i64 l, .int .i64 e, .int .i64 m, .slice p3 n c3, .slice p4 o c4] 80)) := by
      have := heap_alloc_new (w.alloc (.cells #[.int .i64 f, .int .i64 l, .int .i64 e, .int .i64 m, .slice p1 n c1, .slice p2 o c2] 80)) (.cells #[.int .i64 f, .int .i64 l, .int .i64 e, .int .i64 m, .slice p3 n c3, .slice p4 o c4] 80)
      simpa [SerAt] using this
    have HB := Lib.hid ((below_box w (.cells #[.int .i64 f, .int .i64 l, .int .i64 e, .int .i64 m, .slice p1 n c1, .slice p2 o c2] 80)).alloc (by simp) (.cells #[.int .i64 f, .int .i64 l, .int .i64 e, .int .i64 m, .slice p3 n c3, .slice p4 o c4] 80))
    have HS := Lib.hid (S0.block (w' := (w.alloc (.cells #[.int .i64 f, .int .i64 l, .int .i64 e, .int .i64 m, .slice p1 n c1, .slice p2 o c2] 80)).alloc (.cells #[.int .i64 f, .int .i64 l, .int .i64 e, .int .i64 m, .slice p3 n c3, .slice p4 o c4] 80)) ((below_box _ _).block _ (by simp)))
    have HT := Lib.hid T0; clear S0 T0; go_enter Tryz.func142, Tryz.ntmps142
    go_wp2_with fail
    go_loopw [5] (fun iv wr => ∃ k : Nat, iv = .int .i64 k ∧ k ≤ n ∧ Hid (Below w.heap.size w wr) ∧ Hid (SerAt w.heap.size ⟨f, l, e, m, ex, xt⟩ (.slice p1 n c1) (.slice p2 o c2) wr) ∧ Hid (SerAt (w.heap.size + 1) ⟨f, l, e, m, ex', xt'⟩ (.slice p3 n c3) (.slice p4 o c4) wr) ∧ Hid (∀ j, j < k → ex[j]? = ex'[j]?)) (fun iv _ => n - (intOf iv).toNat)
    case atStart => exact ⟨0, rfl, Nat.zero_le _, HB, HS, HT, Lib.hid (fun j h => absurd h (Nat.not_lt_zero _))⟩
    case round =>
      obtain ⟨k, rfl, hk, HBr, HA, HA2, HE⟩ := hrel; obtain ⟨-, -, -, -, e4, e5⟩ := HA.out.cells
      obtain ⟨-, -, -, -, f4, f5⟩ := HA2.out.cells
      by_cases hlt : k < n
      · have hx : k < ex.length := by rw [← HN.out]; exact hlt
        have hy : k < ex'.length := by rw [← HL1.out]; exact hlt
        obtain ⟨a, rfl, ha, hca⟩ := HI1.out k _ (List.getElem?_eq_getElem hx)
        obtain ⟨a', rfl, ha', hcb⟩ := HI3.out k _ (List.getElem?_eq_getElem hy)
        obtain ⟨x, hxe⟩ : ∃ x, x = ex[k] := ⟨_, rfl⟩
        obtain ⟨y, hye⟩ : ∃ y, y = ex'[k] := ⟨_, rfl⟩
        rw [← hxe] at hca
        rw [← hye] at hcb
        have HXE := Lib.hid hxe; have HYE := Lib.hid hye; clear hxe hye; have hca := (HBr.out.cell (p := a.add k) (by rw [addr_add_block]; omega)).trans hca
        have hcb := (HBr.out.cell (p := a'.add k) (by rw [addr_add_block]; omega)).trans hcb
        have hlt2 : (k : Int) < n := by omega
        by_cases he : x = y
        · have hb : (x != y) = false := by simp [he]
          have HS2 := Lib.hid (show ∀ j, j < k + 1 → ex[j]? = ex'[j]? from by
            intro j hj; rcases Nat.lt_or_ge j k with h | h
            · exact HE.out j h
            · obtain rfl : j = k := by omega
              rw [List.getElem?_eq_getElem hx, List.getElem?_eq_getElem hy, ← HXE.out, ← HYE.out, he])
          clear he; go_wp2_with fail
          go_quiet (fail)
          go_wp2_with fail
          go_roundw
          case rel => exact ⟨k + 1, by go_num, by omega, Lib.hid (below_drew HBr.out), Lib.hid (HA.out.block (by simp)), Lib.hid (HA2.out.block (by simp)), HS2⟩
          case measure => simp [intOf]; omega
        · have hb : (x != y) = true := by simp [he]
          have HD := Lib.hid (show decide ((⟨f, l, e, m, ex, xt⟩ : Tt.Ser) = ⟨f, l, e, m, ex', xt'⟩) = false from by
            rw [decide_eq_false_iff_not]
            intro h; injection h with a1 a2 a3 a4 a5 a6
            exact he (by rw [HXE.out, HYE.out]; simp [a5]))
          clear he; go_wp2_with fail
          go_quiet (fail)
          go_wp2_with fail
          go_ret; exact ⟨ret_bool HD.out.symm, below_drew HBr.out⟩
      · have hlt2 : ¬ (k : Int) < n := by omega
        have HX := Lib.hid (show ex = ex' from list_parts HN.out.symm HL1.out.symm (fun j hj => HE.out j (by omega)))
        clear HE hk hlt; go_wp2_with fail
        go_loopw [6] (fun iv wq => ∃ k : Nat, iv = .int .i64 k ∧ k ≤ o ∧ Hid (Below w.heap.size w wq) ∧ Hid (SerAt w.heap.size ⟨f, l, e, m, ex, xt⟩ (.slice p1 n c1) (.slice p2 o c2) wq) ∧ Hid (SerAt (w.heap.size + 1) ⟨f, l, e, m, ex', xt'⟩ (.slice p3 n c3) (.slice p4 o c4) wq) ∧ Hid (∀ j, j < k → xt[j]? = xt'[j]?)) (fun iv _ => o - (intOf iv).toNat)
        case atStart => exact ⟨0, rfl, Nat.zero_le _, HBr, HA, HA2, Lib.hid (fun j h => absurd h (Nat.not_lt_zero _))⟩
        case round =>
          clear e4 e5 f4 f5; obtain ⟨k, rfl, hk, HBr, HA, HA2, HE⟩ := hrel; obtain ⟨-, -, -, -, e4, e5⟩ := HA.out.cells
          obtain ⟨-, -, -, -, f4, f5⟩ := HA2.out.cells
          by_cases hlt : k < o
          · have hx : k < xt.length := by rw [← HO.out]; exact hlt
            have hy : k < xt'.length := by rw [← HL2.out]; exact hlt
            obtain ⟨a, rfl, ha, hca⟩ := HI2.out k _ (List.getElem?_eq_getElem hx)
            obtain ⟨a', rfl, ha', hcb⟩ := HI4.out k _ (List.getElem?_eq_getElem hy)
            obtain ⟨x, hxe⟩ : ∃ x, x = xt[k] := ⟨_, rfl⟩
            obtain ⟨y, hye⟩ : ∃ y, y = xt'[k] := ⟨_, rfl⟩
            rw [← hxe] at hca
            rw [← hye] at hcb
            have HXE := Lib.hid hxe; have HYE := Lib.hid hye; clear hxe hye; have hca := (HBr.out.cell (p := a.add k) (by rw [addr_add_block]; omega)).trans hca
            have hcb := (HBr.out.cell (p := a'.add k) (by rw [addr_add_block]; omega)).trans hcb
            have hlt2 : (k : Int) < o := by omega
            by_cases he : x = y
            · have hb : (x != y) = false := by simp [he]
              have HS2 := Lib.hid (show ∀ j, j < k + 1 → xt[j]? = xt'[j]? from by
                intro j hj; rcases Nat.lt_or_ge j k with h | h
                · exact HE.out j h
                · obtain rfl : j = k := by omega
                  rw [List.getElem?_eq_getElem hx, List.getElem?_eq_getElem hy, ← HXE.out, ← HYE.out, he])
              clear he; go_wp2_with fail
              go_quiet (fail)
              go_wp2_with fail
              go_roundw
              case rel => exact ⟨k + 1, by go_num, by omega, Lib.hid (below_drew HBr.out), Lib.hid (HA.out.block (by simp)), Lib.hid (HA2.out.block (by simp)), HS2⟩
              case measure => simp [intOf]; omega
            · have hb : (x != y) = true := by simp [he]
              have HD := Lib.hid (show decide ((⟨f, l, e, m, ex, xt⟩ : Tt.Ser) = ⟨f, l, e, m, ex', xt'⟩) = false from by
                rw [decide_eq_false_iff_not]
                intro h; injection h with a1 a2 a3 a4 a5 a6
                exact he (by rw [HXE.out, HYE.out]; simp [a6]))
              clear he; go_wp2_with fail
              go_quiet (fail)
              go_wp2_with fail
              go_ret; exact ⟨ret_bool HD.out.symm, below_drew HBr.out⟩
          · have hlt2 : ¬ (k : Int) < o := by omega
            have HY := Lib.hid (show xt = xt' from list_parts HO.out.symm HL2.out.symm (fun j hj => HE.out j (by omega)))
            have HD := Lib.hid (show decide ((⟨f, l, e, m, ex, xt⟩ : Tt.Ser) = ⟨f, l, e, m, ex', xt'⟩) = true from by rw [HX.out, HY.out]; simp)
            go_wp2_with fail
            go_ret; exact ⟨ret_bool (by simpa using HD.out.symm), HBr.out⟩
  · have HD := Lib.hid (show decide ((⟨f, l, e, m, ex, xt⟩ : Tt.Ser) = ⟨f', l', e', m', ex', xt'⟩) = false from by
      rw [decide_eq_false_iff_not]
      intro h; injection h with a1 a2 a3 a4 a5 a6
      exact hq ⟨a1, a2, a3, a4, by rw [a5], by rw [a6]⟩)
    go_enter Tryz.func142, Tryz.ntmps142
    go_wp2_with fail
    all_goals
      go_ret; exact ⟨ret_bool HD.out.symm, (below_box _ _).trans ((below_box _ _).mono (by simp))⟩
end Go.Proofs.YtageielcdebjlaaGreatDoor
namespace Go.Proofs.YtageielcdebjlaaGreatDoor
open Go.RowKit

deriving instance DecidableEq for Ev

theorem text_ne {x y : ByteArray} (he : ¬ x = y) : (x.toList == y.toList) = false := by
  rw [beq_eq_false_iff_ne]; intro h; rw [Lib.toList_data, Lib.toList_data] at h; exact he (ByteArray.ext (Array.toList_inj.mp h))
theorem ev_ne {a b : Ev} (h : ¬ a = b) : decide (a = b) = false := by simpa using h

set_option maxHeartbeats 8000000 in
set_option maxRecDepth 100000 in
theorem sameev71 (a b : Ev) (B : Nat) (w : World) (p1 p2 p3 p4 : Option Addr) (c1 c2 c3 c4 : Nat) (hB : B ≤ w.heap.size) (hI1 : Ints B w p1 a.days.ex) (hI2 : Ints B w p2 a.days.xt) (hI3 : Ints B w p3 b.days.ex) (hI4 : Ints B w p4 b.days.xt) (hn1 : a.days.ex.length ≤ 4611686018427387903) (hn2 : a.days.xt.length ≤ 4611686018427387903) :
    Calls Tryz.prog 71 #[evVal a (.slice p1 a.days.ex.length c1) (.slice p2 a.days.xt.length c2), evVal b (.slice p3 b.days.ex.length c3) (.slice p4 b.days.xt.length c4)] w fun e w' => e = .returned (.bool (decide (a = b))) ∧ Below w.heap.size w w' := by
  have hbx := (below_box w (.cells (evCells a (.slice p1 a.days.ex.length c1) (.slice p2 a.days.xt.length c2)) 82)).alloc (by simp) (.cells (evCells b (.slice p3 b.days.ex.length c3) (.slice p4 b.days.xt.length c4)) 82)
  have S0 : EvBox w.heap.size a (.slice p1 a.days.ex.length c1) (.slice p2 a.days.xt.length c2) (w.alloc (.cells (evCells a (.slice p1 a.days.ex.length c1) (.slice p2 a.days.xt.length c2)) 82)) := heap_alloc_new w _
  have T0 : EvBox (w.heap.size + 1) b (.slice p3 b.days.ex.length c3) (.slice p4 b.days.xt.length c4) ((w.alloc (.cells (evCells a (.slice p1 a.days.ex.length c1) (.slice p2 a.days.xt.length c2)) 82)).alloc (.cells (evCells b (.slice p3 b.days.ex.length c3) (.slice p4 b.days.xt.length c4)) 82)) := by
    have := heap_alloc_new (w.alloc (.cells (evCells a (.slice p1 a.days.ex.length c1) (.slice p2 a.days.xt.length c2)) 82)) (.cells (evCells b (.slice p3 b.days.ex.length c3) (.slice p4 b.days.xt.length c4)) 82)
    simpa [EvBox] using this
  have HS := Lib.hid (S0.block (w' := (w.alloc (.cells (evCells a (.slice p1 a.days.ex.length c1) (.slice p2 a.days.xt.length c2)) 82)).alloc (.cells (evCells b (.slice p3 b.days.ex.length c3) (.slice p4 b.days.xt.length c4)) 82)) ((below_box _ _).block _ (by simp)))
  have HT := Lib.hid T0; have HB := Lib.hid hbx; have HI1 := Lib.hid (hI1.below (hbx.mono hB))
  have HI2 := Lib.hid (hI2.below (hbx.mono hB))
  have HI3 := Lib.hid (hI3.below (hbx.mono hB))
  have HI4 := Lib.hid (hI4.below (hbx.mono hB))
  clear hI1 hI2 hI3 hI4 S0 T0 hbx; obtain ⟨u, s, oc, d, st, mi, su, lo⟩ := a; obtain ⟨u', s', nc, d', st', mi', su', lo'⟩ := b; unfold evCells at *
  unfold evVal evCells
  simp only at *
  by_cases h1 : u = u'
  · subst h1; by_cases h2 : s = s'
    · subst h2; by_cases h3 : oc = nc
      · subst h3; have hcc : (oc == oc) = true := by simp
        go_enter Tryz.func71, Tryz.ntmps71
        go_wp2_with fail
        refine (sameser142 d d' B _ p1 p2 p3 p4 c1 c2 c3 c4 (by simp; omega) HI1.out HI2.out HI3.out HI4.out hn1 hn2).mono ?_
        rintro e w1 ⟨rfl, hb1⟩; have HA1 := Lib.hid (HS.out.block (hb1.block _ (by simp; omega)))
        have HA2 := Lib.hid (HT.out.block (hb1.block _ (by simp)))
        have HB1 := Lib.hid (HB.out.trans (hb1.mono (by simp; omega)))
        clear hb1; obtain ⟨-, -, -, -, -, -, -, -, -, c9, c10, c11, c12⟩ := HA1.out.c
        obtain ⟨-, -, -, -, -, -, -, -, -, d9, d10, d11, d12⟩ := HA2.out.c
        by_cases h4 : d = d'
        · subst h4; have HD4 := Lib.hid (show decide (d = d) = true from by simp)
          rw [HD4.out]
          by_cases h5 : st = st'
          · subst h5; by_cases h6 : mi = mi'
            · subst h6; by_cases h7 : su = su'
              · subst h7; by_cases h8 : lo = lo'
                · subst h8; have HD := Lib.hid (show decide ((⟨u, s, oc, d, st, mi, su, lo⟩ : Ev) = ⟨u, s, oc, d, st, mi, su, lo⟩) = true from by simp)
                  go_wp2_with fail
                  go_ret; exact ⟨ret_bool (by simp), HB1.out⟩
                · have HD := Lib.hid (ev_ne (a := ⟨u, s, oc, d, st, mi, su, lo⟩) (b := ⟨u, s, oc, d, st, mi, su, lo'⟩) (fun h => by injection h; exact h8 (by assumption)))
                  have hb := text_ne h8; clear h8; go_wp2_with fail
                  go_ret; exact ⟨ret_bool HD.out.symm, HB1.out⟩
              · have HD := Lib.hid (ev_ne (a := ⟨u, s, oc, d, st, mi, su, lo⟩) (b := ⟨u, s, oc, d, st, mi, su', lo'⟩) (fun h => by injection h; exact h7 (by assumption)))
                have hb := text_ne h7; clear h7; go_wp2_with fail
                go_ret; exact ⟨ret_bool HD.out.symm, HB1.out⟩
            · have HD := Lib.hid (ev_ne (a := ⟨u, s, oc, d, st, mi, su, lo⟩) (b := ⟨u, s, oc, d, st, mi', su', lo'⟩) (fun h => by injection h; exact h6 (by assumption)))
              have hb : (mi == mi') = false := by simpa using h6
              go_wp2_with fail
              go_ret; exact ⟨ret_bool HD.out.symm, HB1.out⟩
          · have HD := Lib.hid (ev_ne (a := ⟨u, s, oc, d, st, mi, su, lo⟩) (b := ⟨u, s, oc, d, st', mi', su', lo'⟩) (fun h => by injection h; exact h5 (by assumption)))
            have hb : (st == st') = false := by simpa using h5
            go_wp2_with fail
            go_ret; exact ⟨ret_bool HD.out.symm, HB1.out⟩
        · have HD := Lib.hid (ev_ne (a := ⟨u, s, oc, d, st, mi, su, lo⟩) (b := ⟨u, s, oc, d', st', mi', su', lo'⟩) (fun h => by injection h; exact h4 (by assumption)))
          have HD4 := Lib.hid (show decide (d = d') = false from by simpa using h4)
          rw [HD4.out]
          clear h4; go_wp2_with fail
          go_ret; exact ⟨ret_bool HD.out.symm, HB1.out⟩
      · have HD := Lib.hid (ev_ne (a := ⟨u, s, oc, d, st, mi, su, lo⟩) (b := ⟨u, s, nc, d', st', mi', su', lo'⟩) (fun h => by injection h; exact h3 (by assumption)))
        have hb : (oc == nc) = false := by simpa using h3
        go_enter Tryz.func71, Tryz.ntmps71
        go_wp2_with fail
        go_ret; exact ⟨ret_bool HD.out.symm, HB.out⟩
    · have HD := Lib.hid (ev_ne (a := ⟨u, s, oc, d, st, mi, su, lo⟩) (b := ⟨u, s', nc, d', st', mi', su', lo'⟩) (fun h => by injection h; exact h2 (by assumption)))
      have hb : (s == s') = false := by simpa using h2
      go_enter Tryz.func71, Tryz.ntmps71
      go_wp2_with fail
      go_ret; exact ⟨ret_bool HD.out.symm, HB.out⟩
  · have HD := Lib.hid (ev_ne (a := ⟨u, s, oc, d, st, mi, su, lo⟩) (b := ⟨u', s', nc, d', st', mi', su', lo'⟩) (fun h => by injection h; exact h1 (by assumption)))
    have hb := text_ne h1; clear h1; go_enter Tryz.func71, Tryz.ntmps71
    go_wp2_with fail
    go_ret; exact ⟨ret_bool HD.out.symm, HB.out⟩
end Go.Proofs.YtageielcdebjlaaGreatDoor
namespace Go.Proofs.YtageielcdebjlaaGreatDoor
open Go.RowKit

/-- A notice: its kind, the event's identifier and number. -/
structure Nt where
  kind : Int
  uid : ByteArray
  seq : Int
  deriving DecidableEq

end Go.Proofs.YtageielcdebjlaaGreatDoor
namespace Go.Proofs.YtageielcdebjlaaGreatDoor
open Go.RowKit

/-- What an event refers to, in blocks below B. -/
def RefS (B : Nat) (w : World) (t : Ev × Value × Value) : Prop := EvB t.1 ∧ SlI B w t.2.1 t.1.days.ex ∧ SlI B w t.2.2 t.1.days.xt
theorem RefS.below {B : Nat} {w w' : World} {t : Ev × Value × Value} (h : RefS B w t) (hw : Below B w w') : RefS B w' t := ⟨h.1, h.2.1.below hw, h.2.2.below hw⟩
theorem RefS.mono {B B' : Nat} {w : World} {t : Ev × Value × Value} (h : RefS B w t) (hB : B ≤ B') : RefS B' w t := ⟨h.1, h.2.1.mono hB, h.2.2.mono hB⟩

/-- A stretch of events from an address on, in blocks below B. -/
structure Seg (B : Nat) (w : World) (ao : Option Addr) (ts : List (Ev × Value × Value)) : Prop where
  at' : ts = [] ∨ ∃ b o, ao = some ⟨b, o, none⟩ ∧ b < B ∧ ∀ (j : Nat) (u : Value), (tCells ts)[j]? = some u → w.cell? ⟨b, o + j, none⟩ = some u
  ref : ∀ t ∈ ts, RefS B w t

theorem Seg.below {B : Nat} {w w' : World} {ao : Option Addr} {ts : List (Ev × Value × Value)} (h : Seg B w ao ts) (hw : Below B w w') : Seg B w' ao ts := by
  refine ⟨?_, fun t ht => (h.ref t ht).below hw⟩
  rcases h.at' with h | ⟨b, o, ha, hb, hc⟩
  · exact .inl h
  · exact .inr ⟨b, o, ha, hb, fun j u hj => (hw.cell (p := ⟨b, o + j, none⟩) hb).trans (hc j u hj)⟩
theorem Seg.mono {B B' : Nat} {w : World} {ao : Option Addr} {ts : List (Ev × Value × Value)} (h : Seg B w ao ts) (hB : B ≤ B') : Seg B' w ao ts := by
  refine ⟨?_, fun t ht => (h.ref t ht).mono hB⟩
  rcases h.at' with h | ⟨b, o, ha, hb, hc⟩
  · exact .inl h
  · exact .inr ⟨b, o, ha, by omega, hc⟩
theorem Seg.nil (B : Nat) (w : World) (ao : Option Addr) : Seg B w ao [] := ⟨.inl rfl, fun t h => by cases h⟩

theorem tCells_app (a b : List (Ev × Value × Value)) : tCells (a ++ b) = tCells a ++ tCells b := by unfold tCells; simp
theorem tCells_take (ts : List (Ev × Value × Value)) (k : Nat) (hk : k ≤ ts.length) : tCells (ts.take k) = (tCells ts).take (k * 13) := by
  have h : tCells ts = tCells (ts.take k) ++ tCells (ts.drop k) := by rw [← tCells_app, List.take_append_drop]
  rw [h, List.take_left' (by rw [tCells_len, List.length_take, Nat.min_eq_left hk])]
theorem tCells_drop (ts : List (Ev × Value × Value)) (k : Nat) (hk : k ≤ ts.length) : tCells (ts.drop k) = (tCells ts).drop (k * 13) := by
  have h : tCells ts = tCells (ts.take k) ++ tCells (ts.drop k) := by rw [← tCells_app, List.take_append_drop]
  rw [h, List.drop_left' (by rw [tCells_len, List.length_take, Nat.min_eq_left hk])]

theorem Seg.take {B : Nat} {w : World} {ao : Option Addr} {ts : List (Ev × Value × Value)} (h : Seg B w ao ts) (k : Nat) (hk : k ≤ ts.length) : Seg B w ao (ts.take k) := by
  refine ⟨?_, fun t ht => h.ref t (List.mem_of_mem_take ht)⟩
  rcases h.at' with h | ⟨b, o, ha, hb, hc⟩
  · exact .inl (by rw [h]; simp)
  · refine .inr ⟨b, o, ha, hb, fun j u hj => hc j u ?_⟩
    rw [tCells_take ts k hk, List.getElem?_take] at hj
    split at hj
    · exact hj
    · cases hj
theorem Seg.drop {B : Nat} {w : World} {b o : Nat} {ts : List (Ev × Value × Value)} (h : Seg B w (some ⟨b, o, none⟩) ts) (k : Nat) (hk : k ≤ ts.length) : Seg B w (some ⟨b, o + k * 13, none⟩) (ts.drop k) := by
  refine ⟨?_, fun t ht => h.ref t (List.mem_of_mem_drop ht)⟩
  rcases h.at' with h | ⟨b', o', ha, hb, hc⟩
  · exact .inl (by rw [h]; simp)
  · cases ha
    refine .inr ⟨b, o + k * 13, rfl, hb, fun j u hj => ?_⟩
    rw [tCells_drop ts k hk, List.getElem?_drop] at hj
    rw [Nat.add_assoc]
    exact hc _ u hj
theorem seg_c {w : World} {b o : Nat} {ts : List (Ev × Value × Value)} (h : ∀ (j : Nat) (u : Value), (tCells ts)[j]? = some u → w.cell? ⟨b, o + j, none⟩ = some u) (j : Nat) (t : Ev × Value × Value) (ht : ts[j]? = some t) : EvC b (o + j * 13) t.1 t.2.1 t.2.2 w := by
  have hc : ∀ i u, i < 13 → (evCells t.1 t.2.1 t.2.2).toList[i]? = some u → w.cell? ⟨b, o + j * 13 + i, none⟩ = some u := fun i u hi hu => by
    rw [Nat.add_assoc]
    exact h (j * 13 + i) u (by rw [tCells_get ts j i t ht hi]; exact hu)
  refine ⟨?_, ?_, ?_, ?_, ?_, ?_, ?_, ?_, ?_, ?_, ?_, ?_, ?_⟩
  · exact hc 0 _ (by omega) rfl
  · exact hc 1 _ (by omega) rfl
  · exact hc 2 _ (by omega) rfl
  · exact hc 3 _ (by omega) rfl
  · exact hc 4 _ (by omega) rfl
  · exact hc 5 _ (by omega) rfl
  · exact hc 6 _ (by omega) rfl
  · exact hc 7 _ (by omega) rfl
  · exact hc 8 _ (by omega) rfl
  · exact hc 9 _ (by omega) rfl
  · exact hc 10 _ (by omega) rfl
  · exact hc 11 _ (by omega) rfl
  · exact hc 12 _ (by omega) rfl
theorem Seg.evs {B : Nat} {w : World} {ao : Option Addr} {ts : List (Ev × Value × Value)} (h : Seg B w ao ts) : Evs B w ao (ts.map (·.1)) := by
  rcases h.at' with h | ⟨b, o, ha, hb, hc⟩
  · exact .inl (by rw [h]; rfl)
  · refine .inr ⟨b, o, ha, hb, fun j e hj => ?_⟩
    obtain ⟨t, ht, he⟩ : ∃ t, ts[j]? = some t ∧ t.1 = e := by
      rw [List.getElem?_map] at hj
      cases h2 : ts[j]? with
      | none => rw [h2] at hj; cases hj
      | some t => rw [h2] at hj; exact ⟨t, rfl, by simpa using hj⟩
    subst he; obtain ⟨r1, r2, r3⟩ := h.ref t (List.mem_of_getElem? ht)
    exact ⟨r1, t.2.1, t.2.2, seg_c hc j t ht, r2, r3⟩
end Go.Proofs.YtageielcdebjlaaGreatDoor
namespace Go.Proofs.YtageielcdebjlaaGreatDoor
open Go.RowKit

def RefT (lo : Nat) (w : World) (t : Ev × Value × Value) : Prop := EvB t.1 ∧ RowI lo w t.2.1 t.1.days.ex ∧ RowI lo w t.2.2 t.1.days.xt
/-- Events in a row of one's own. -/
structure RowT (lo : Nat) (w : World) (v : Value) (ts : List (Ev × Value × Value)) : Prop where
  row : w.ownsRow lo 82 13 v ts.length (tCells ts)
  ref : ∀ t ∈ ts, RefT lo w t
theorem RowE.t {lo : Nat} {w : World} {v : Value} {ts : List (Ev × Value × Value)} (h : RowE lo w v ts) : RowT lo w v ts := ⟨h.row, fun t ht => ⟨(h.ref t ht).1.b, (h.ref t ht).2⟩⟩
theorem RefT.s {lo : Nat} {w : World} {t : Ev × Value × Value} (h : RefT lo w t) : RefS w.heap.size w t := by
  obtain ⟨hg, hx, hy⟩ := h; obtain ⟨ax, cx, e1, i1⟩ := hx.ints
  obtain ⟨ay, cy, e2, i2⟩ := hy.ints
  exact ⟨hg, ⟨ax, cx, e1, i1⟩, ⟨ay, cy, e2, i2⟩⟩
theorem RowT.nil (lo : Nat) (w : World) : RowT lo w (.slice none 0 0) [] := ⟨World.ownsRow_nil _ _ _ _, fun t h => by cases h⟩
theorem RefT.mono {lo lo' : Nat} {w : World} {t : Ev × Value × Value} (h : RefT lo w t) (hb : lo' ≤ lo) : RefT lo' w t := ⟨h.1, ownsRow_mono h.2.1 hb, ownsRow_mono h.2.2 hb⟩
theorem RowT.mono {lo lo' : Nat} {w : World} {v : Value} {ts : List (Ev × Value × Value)} (h : RowT lo w v ts) (hb : lo' ≤ lo) : RowT lo' w v ts := ⟨ownsRow_mono h.row hb, fun t ht => (h.ref t ht).mono hb⟩
theorem RefT.made {lo : Nat} {w w' : World} {t : Ev × Value × Value} (h : RefT lo w t) (hb : Below w.heap.size w w') : RefT lo w' t := ⟨h.1, row_made h.2.1 hb, row_made h.2.2 hb⟩
theorem RowT.made {lo : Nat} {w w' : World} {v : Value} {ts : List (Ev × Value × Value)} (h : RowT lo w v ts) (hb : Below w.heap.size w w') : RowT lo w' v ts := ⟨row_made h.row hb, fun t ht => (h.ref t ht).made hb⟩
theorem RefT.set {lo : Nat} {w : World} {t : Ev × Value × Value} (h : RefT lo w t) {g : Nat} {cs : Array Value} {ty : TypeId} (hg : Blk g cs ty w) (hte : ty ≠ 3) (i : Nat) (u : Value) : RefT lo (w.setCell ⟨g, i, none⟩ u) t := ⟨h.1, row_set h.2.1 hg hte i u, row_set h.2.2 hg hte i u⟩
theorem RowT.set {lo : Nat} {w : World} {v : Value} {ts : List (Ev × Value × Value)} (h : RowT lo w v ts) {g : Nat} {cs : Array Value} {ty : TypeId} (hg : Blk g cs ty w) (hte : ty ≠ 3) (hte2 : ty ≠ 82) (i : Nat) (u : Value) : RowT lo (w.setCell ⟨g, i, none⟩ u) v ts := ⟨row_set h.row hg hte2 i u, fun t ht => (h.ref t ht).set hg hte i u⟩
theorem RefT.alloc {lo : Nat} {w : World} {t : Ev × Value × Value} (h : RefT lo w t) (o : Obj) : RefT lo (w.alloc o) t := ⟨h.1, World.ownsRow.alloc h.2.1 o, World.ownsRow.alloc h.2.2 o⟩
theorem RowT.alloc {lo : Nat} {w : World} {v : Value} {ts : List (Ev × Value × Value)} (h : RowT lo w v ts) (o : Obj) : RowT lo (w.alloc o) v ts := ⟨h.row.alloc o, fun t ht => (h.ref t ht).alloc o⟩
theorem RefT.grown {lo B n k : Nat} {w w' : World} {t : Ev × Value × Value} {v : Value} {xs : List Value} (h : RefT lo w t) (hown : w.ownsRow B 82 k v n xs) (hg : w.grownBy w' v.ownBlock) : RefT lo w' t :=
  ⟨h.1, World.ownsRow.kept h.2.1 hg (row_apart_ty h.2.1 hown (by decide)), World.ownsRow.kept h.2.2 hg (row_apart_ty h.2.2 hown (by decide))⟩
/-- The row behind a change that leaves other cells: what they refer to is as it was. -/
theorem RowT.changed {lo : Nat} {w w' : World} {v v' : Value} {ts us : List (Ev × Value × Value)} (h : RowT lo w v ts) (hg : w.grownBy w' v.ownBlock) (hu : ∀ t ∈ us, t ∈ ts ∨ RefT lo w t) (hrow : w'.ownsRow lo 82 13 v' us.length (tCells us)) : RowT lo w' v' us :=
  ⟨hrow, fun t ht => (hu t ht).elim (fun k => (h.ref t k).grown h.row hg) (fun k => k.grown h.row hg)⟩
theorem RowT.snoc {lo : Nat} {w w' : World} {v v' : Value} {ts : List (Ev × Value × Value)} {t : Ev × Value × Value} (h : RowT lo w v ts) (ht : RefT lo w t) (hg : w.grownBy w' v.ownBlock)
    (hrow : w'.ownsRow lo 82 13 v' (ts.length + 1) (tCells ts ++ (evCells t.1 t.2.1 t.2.2).toList)) : RowT lo w' v' (ts ++ [t]) := by
  refine h.changed hg (fun s hs => ?_) ?_
  · rcases List.mem_append.1 hs with k | k
    · exact .inl k
    · rw [List.mem_singleton.1 k]; exact .inr ht
  · rw [tCells_snoc, List.length_append]
    exact hrow
/-- A row of one's own changed: the blocks below are as they were. -/
theorem below_grownBy {B B' k n : Nat} {w0 w w' : World} {e : TypeId} {v : Value} {xs : List Value} (hb : Below B w0 w) (hown : w.ownsRow B' e k v n xs) (hB : B ≤ B') (hs : B ≤ w.heap.size) (hg : w.grownBy w' v.ownBlock) : Below B w0 w' := by
  refine hb.trans ⟨hg.os, hg.tape, hg.output, hg.size, fun j hj => hg.block j (by omega) (fun he => ?_)⟩
  have := (hown.lt j he.symm).1
  omega

/-- What is seen of one event in a row of one's own. -/
theorem RowT.ev {lo n c g : Nat} {w : World} {ts : List (Ev × Value × Value)} (h : RowT lo w (.slice (some ⟨g, 0, none⟩) n c) ts) (j : Nat) (t : Ev × Value × Value) (ht : ts[j]? = some t) : EvC g (j * 13) t.1 t.2.1 t.2.2 w := by
  have h0 := seg_c (w := w) (b := g) (o := 0) (ts := ts) (fun j u hj => by
    have := h.row.cells (g := g) rfl j u hj
    rw [Addr.add_lit] at this
    exact this) j t ht
  rw [Nat.zero_add] at h0
  exact h0
end Go.Proofs.YtageielcdebjlaaGreatDoor
