/- timetableref39.Same: its contract: are two series the same? timetableref40.SameEvent: its contract. subscriber.Valid, timetableref41.Valid and the law's short: their contracts. Stretches of events in memory: their cells and what they refer to. No function of the program in sight. Condition: none. Plain facts on the reference's Put: an event laid into a list in the order of the identifiers. No program in sight. Condition: none. Plain facts on the order of identifiers, and on valid lists of events. No program in sight. Condition: none. subscriber.find with slices.BinarySearchFunc: its contract. Plain facts: a binary search over ascending identifiers finds what Find finds. No program in sight. Condition: none. Plain facts on merging: the place of a search is the place of Put; the fold over a feed's events; the merged list stays valid. No program in sight. Condition: none. -/
import Derived.Test.YtcomifbfldoeiaaGreatDoorPk10
import Derived.StillTailTactics
import Derived.Sort.Walk0
namespace Go.Proofs.YtcomifbfldoeiaaGreatDoor
open Go.RowKit

theorem list_parts {xs ys : List Int} {n : Nat} (hx : xs.length = n) (hy : ys.length = n) (h : ∀ j, j < n → xs[j]? = ys[j]?) : xs = ys := by
  apply List.ext_getElem?
  intro j; rcases Nat.lt_or_ge j n with hj | hj
  · exact h j hj
  · rw [List.getElem?_eq_none (by omega), List.getElem?_eq_none (by omega)]

set_option maxHeartbeats 4000000 in
set_option maxRecDepth 100000 in
theorem sameser142 (s t : Tt.Ser) (B : Nat) (w : World) (p1 p2 p3 p4 : Option Addr) (c1 c2 c3 c4 : Nat) (hB : B ≤ w.heap.size) (hI1 : Ints B w p1 s.ex) (hI2 : Ints B w p2 s.xt) (hI3 : Ints B w p3 t.ex) (hI4 : Ints B w p4 t.xt) (hn1 : s.ex.length ≤ 4611686018427387903) (hn2 : s.xt.length ≤ 4611686018427387903) :
    Calls Tryz.prog 85 #[serVal s (.slice p1 s.ex.length c1) (.slice p2 s.xt.length c2), serVal t (.slice p3 t.ex.length c3) (.slice p4 t.xt.length c4)] w fun e w' => e = .returned (.bool (decide (s = t))) ∧ Below w.heap.size w w' := by
  obtain ⟨f, l, e, m, ex, xt⟩ := s; obtain ⟨f', l', e', m', ex', xt'⟩ := t; simp only at *
  have HI1 := Lib.hid hI1; have HI2 := Lib.hid hI2; have HI3 := Lib.hid hI3; have HI4 := Lib.hid hI4; clear hI1 hI2 hI3 hI4; unfold serVal
  by_cases hq : f = f' ∧ l = l' ∧ e = e' ∧ m = m' ∧ ex.length = ex'.length ∧ xt.length = xt'.length
  · obtain ⟨rfl, rfl, rfl, rfl, hl1, hl2⟩ := hq; rw [← hl1, ← hl2]
    obtain ⟨n, hn⟩ : ∃ n, n = ex.length := ⟨_, rfl⟩
    obtain ⟨o, ho⟩ : ∃ o, o = xt.length := ⟨_, rfl⟩
    rw [← hn] at hn1 hl1 ⊢
    rw [← ho] at hn2 hl2 ⊢
    have HN := Lib.hid hn; have HO := Lib.hid ho; have HL1 := Lib.hid hl1; have HL2 := Lib.hid hl2; clear hn ho hl1 hl2; have S0 : SerAt w.heap.size ⟨f, l, e, m, ex, xt⟩ (.slice p1 n c1) (.slice p2 o c2) (w.alloc (.cells #[.int .i64 f, .int .i64 l, .int .i64 e, .int .i64 m, .slice p1 n c1, .slice p2 o c2] 102)) := heap_alloc_new w _
    have T0 : SerAt (w.heap.size + 1) ⟨f, l, e, m, ex', xt'⟩ (.slice p3 n c3) (.slice p4 o c4) ((w.alloc (.cells #[.int .i64 f, .int .i64 l, .int .i64 e, .int .i64 m, .slice p1 n c1, .slice p2 o c2] 102)).alloc (.cells #[.int .i64 f, .int .i64 l, .int .i64 e, .int .i64 m, .slice p3 n c3, .slice p4 o c4] 102)) := by
      have := heap_alloc_new (w.alloc (.cells #[.int .i64 f, .int .i64 l, .int .i64 e, .int .i64 m, .slice p1 n c1, .slice p2 o c2] 102)) (.cells #[.int .i64 f, .int .i64 l, .int .i64 e, .int .i64 m, .slice p3 n c3, .slice p4 o c4] 102)
      simpa [SerAt] using this
    have HB := Lib.hid ((below_box w (.cells #[.int .i64 f, .int .i64 l, .int .i64 e, .int .i64 m, .slice p1 n c1, .slice p2 o c2] 102)).alloc (by simp) (.cells #[.int .i64 f, .int .i64 l, .int .i64 e, .int .i64 m, .slice p3 n c3, .slice p4 o c4] 102))
    have HS := Lib.hid (S0.block (w' := (w.alloc (.cells #[.int .i64 f, .int .i64 l, .int .i64 e, .int .i64 m, .slice p1 n c1, .slice p2 o c2] 102)).alloc (.cells #[.int .i64 f, .int .i64 l, .int .i64 e, .int .i64 m, .slice p3 n c3, .slice p4 o c4] 102)) ((below_box _ _).block _ (by simp)))
    have HT := Lib.hid T0; clear S0 T0; go_enter Tryz.func85, Tryz.ntmps85
    go_wp2_with fail
    go_loopw [5] (fun iv wr => ∃ k : Nat, iv = .int .i64 k ∧ k ≤ n ∧ Hid (Below w.heap.size w wr) ∧ Hid (SerAt w.heap.size ⟨f, l, e, m, ex, xt⟩ (.slice p1 n c1) (.slice p2 o c2) wr) ∧ Hid (SerAt (w.heap.size + 1) ⟨f, l, e, m, ex', xt'⟩ (.slice p3 n c3) (.slice p4 o c4) wr) ∧ Hid (∀ j, j < k → ex[j]? = ex'[j]?)) (fun iv _ => n - (intOf iv).toNat)
    case atStart => exact ⟨0, rfl, Nat.zero_le _, HB, HS, HT, Lib.hid (fun j h => absurd h (Nat.not_lt_zero _))⟩
    case round =>
      obtain ⟨k, rfl, hk, HBr, HA, HA2, HE⟩ := hrel; obtain ⟨-, -, -, -, e4, e5⟩ := HA.out.cells
      obtain ⟨-, -, -, -, f4, f5⟩ := HA2.out.cells
      by_cases hlt : k < n
      · have hx : k < ex.length := by rw [← HN.out]; exact hlt
        have hy : k < ex'.length := by rw [← HL1.out]; exact hlt
        obtain ⟨a, rfl, ha, hca⟩ := HI1.out k _ (List.getElem?_eq_getElem hx)
        obtain ⟨a', rfl, ha', hcb⟩ := HI3.out k _ (List.getElem?_eq_getElem hy)
        obtain ⟨x, hxe⟩ : ∃ x, x = ex[k] := ⟨_, rfl⟩
        obtain ⟨y, hye⟩ : ∃ y, y = ex'[k] := ⟨_, rfl⟩
        rw [← hxe] at hca
        rw [← hye] at hcb
        have HXE := Lib.hid hxe; have HYE := Lib.hid hye; clear hxe hye; have hca := (HBr.out.cell (p := a.add k) (by rw [addr_add_block]; omega)).trans hca
        have hcb := (HBr.out.cell (p := a'.add k) (by rw [addr_add_block]; omega)).trans hcb
        have hlt2 : (k : Int) < n := by omega
        by_cases he : x = y
        · have hb : (x != y) = false := by simp [he]
          have HS2 := Lib.hid (show ∀ j, j < k + 1 → ex[j]? = ex'[j]? from by
            intro j hj; rcases Nat.lt_or_ge j k with h | h
            · exact HE.out j h
            · obtain rfl : j = k := by omega
              rw [List.getElem?_eq_getElem hx, List.getElem?_eq_getElem hy, ← HXE.out, ← HYE.out, he])
          clear he; go_wp2_with fail
          go_quiet (fail)
          go_wp2_with fail
          go_roundw
          case rel => exact ⟨k + 1, by go_num, by omega, Lib.hid (below_drew HBr.out), Lib.hid (HA.out.block (by simp)), Lib.hid (HA2.out.block (by simp)), HS2⟩
          case measure => simp [intOf]; omega
        · have hb : (x != y) = true := by simp [he]
          have HD := Lib.hid (show decide ((⟨f, l, e, m, ex, xt⟩ : Tt.Ser) = ⟨f, l, e, m, ex', xt'⟩) = false from by
            rw [decide_eq_false_iff_not]
            intro h; injection h with a1 a2 a3 a4 a5 a6
            exact he (by rw [HXE.out, HYE.out]; simp [a5]))
          clear he; go_wp2_with fail
          go_quiet (fail)
          go_wp2_with fail
          go_ret; exact ⟨ret_bool HD.out.symm, below_drew HBr.out⟩
      · have hlt2 : ¬ (k : Int) < n := by omega
        have HX := Lib.hid (show ex = ex' from list_parts HN.out.symm HL1.out.symm (fun j hj => HE.out j (by omega)))
        clear HE hk hlt; go_wp2_with fail
        go_loopw [6] (fun iv wq => ∃ k : Nat, iv = .int .i64 k ∧ k ≤ o ∧ Hid (Below w.heap.size w wq) ∧ Hid (SerAt w.heap.size ⟨f, l, e, m, ex, xt⟩ (.slice p1 n c1) (.slice p2 o c2) wq) ∧ Hid (SerAt (w.heap.size + 1) ⟨f, l, e, m, ex', xt'⟩ (.slice p3 n c3) (.slice p4 o c4) wq) ∧ Hid (∀ j, j < k → xt[j]? = xt'[j]?)) (fun iv _ => o - (intOf iv).toNat)
        case atStart => exact ⟨0, rfl, Nat.zero_le _, HBr, HA, HA2, Lib.hid (fun j h => absurd h (Nat.not_lt_zero _))⟩
        case round =>
          clear e4 e5 f4 f5; obtain ⟨k, rfl, hk, HBr, HA, HA2, HE⟩ := hrel; obtain ⟨-, -, -, -, e4, e5⟩ := HA.out.cells
          obtain ⟨-, -, -, -, f4, f5⟩ := HA2.out.cells
          by_cases hlt : k < o
          · have hx : k < xt.length := by rw [← HO.out]; exact hlt
            have hy : k < xt'.length := by rw [← HL2.out]; exact hlt
            obtain ⟨a, rfl, ha, hca⟩ := HI2.out k _ (List.getElem?_eq_getElem hx)
            obtain ⟨a', rfl, ha', hcb⟩ := HI4.out k _ (List.getElem?_eq_getElem hy)
            obtain ⟨x, hxe⟩ : ∃ x, x = xt[k] := ⟨_, rfl⟩
            obtain ⟨y, hye⟩ : ∃ y, y = xt'[k] := ⟨_, rfl⟩
            rw [← hxe] at hca
            rw [← hye] at hcb
            have HXE := Lib.hid hxe; have HYE := Lib.hid hye; clear hxe hye; have hca := (HBr.out.cell (p := a.add k) (by rw [addr_add_block]; omega)).trans hca
            have hcb := (HBr.out.cell (p := a'.add k) (by rw [addr_add_block]; omega)).trans hcb
            have hlt2 : (k : Int) < o := by omega
            by_cases he : x = y
            · have hb : (x != y) = false := by simp [he]
              have HS2 := Lib.hid (show ∀ j, j < k + 1 → xt[j]? = xt'[j]? from by
                intro j hj; rcases Nat.lt_or_ge j k with h | h
                · exact HE.out j h
                · obtain rfl : j = k := by omega
                  rw [List.getElem?_eq_getElem hx, List.getElem?_eq_getElem hy, ← HXE.out, ← HYE.out, he])
              clear he; go_wp2_with fail
              go_quiet (fail)
              go_wp2_with fail
              go_roundw
              case rel => exact ⟨k + 1, by go_num, by omega, Lib.hid (below_drew HBr.out), Lib.hid (HA.out.block (by simp)), Lib.hid (HA2.out.block (by simp)), HS2⟩
              case measure => simp [intOf]; omega
            · have hb : (x != y) = true := by simp [he]
              have HD := Lib.hid (show decide ((⟨f, l, e, m, ex, xt⟩ : Tt.Ser) = ⟨f, l, e, m, ex', xt'⟩) = false from by
                rw [decide_eq_false_iff_not]
                intro h; injection h with a1 a2 a3 a4 a5 a6
                exact he (by rw [HXE.out, HYE.out]; simp [a6]))
              clear he; go_wp2_with fail
              go_quiet (fail)
              go_wp2_with fail
              go_ret; exact ⟨ret_bool HD.out.symm, below_drew HBr.out⟩
          · have hlt2 : ¬ (k : Int) < o := by omega
            have HY := Lib.hid (show xt = xt' from list_parts HO.out.symm HL2.out.symm (fun j hj => HE.out j (by omega)))
            have HD := Lib.hid (show decide ((⟨f, l, e, m, ex, xt⟩ : Tt.Ser) = ⟨f, l, e, m, ex', xt'⟩) = true from by rw [HX.out, HY.out]; simp)
            go_wp2_with fail
            go_ret; exact ⟨ret_bool (by simpa using HD.out.symm), HBr.out⟩
  · have HD := Lib.hid (show decide ((⟨f, l, e, m, ex, xt⟩ : Tt.Ser) = ⟨f', l', e', m', ex', xt'⟩) = false from by
      rw [decide_eq_false_iff_not]
      intro h; injection h with a1 a2 a3 a4 a5 a6
      exact hq ⟨a1, a2, a3, a4, by rw [a5], by rw [a6]⟩)
    go_enter Tryz.func85, Tryz.ntmps85
    go_wp2_with fail
    all_goals
      go_ret; exact ⟨ret_bool HD.out.symm, (below_box _ _).trans ((below_box _ _).mono (by simp))⟩
end Go.Proofs.YtcomifbfldoeiaaGreatDoor
namespace Go.Proofs.YtcomifbfldoeiaaGreatDoor
open Go.RowKit

deriving instance DecidableEq for Ev

theorem text_ne {x y : ByteArray} (he : ¬ x = y) : (x.toList == y.toList) = false := by
  rw [beq_eq_false_iff_ne]; intro h; rw [Lib.toList_data, Lib.toList_data] at h; exact he (ByteArray.ext (Array.toList_inj.mp h))
theorem ev_ne {a b : Ev} (h : ¬ a = b) : decide (a = b) = false := by simpa using h

set_option maxHeartbeats 8000000 in
set_option maxRecDepth 100000 in
theorem sameev71 (a b : Ev) (B : Nat) (w : World) (p1 p2 p3 p4 : Option Addr) (c1 c2 c3 c4 : Nat) (hB : B ≤ w.heap.size) (hI1 : Ints B w p1 a.days.ex) (hI2 : Ints B w p2 a.days.xt) (hI3 : Ints B w p3 b.days.ex) (hI4 : Ints B w p4 b.days.xt) (hn1 : a.days.ex.length ≤ 4611686018427387903) (hn2 : a.days.xt.length ≤ 4611686018427387903) :
    Calls Tryz.prog 41 #[evVal a (.slice p1 a.days.ex.length c1) (.slice p2 a.days.xt.length c2), evVal b (.slice p3 b.days.ex.length c3) (.slice p4 b.days.xt.length c4)] w fun e w' => e = .returned (.bool (decide (a = b))) ∧ Below w.heap.size w w' := by
  have hbx := (below_box w (.cells (evCells a (.slice p1 a.days.ex.length c1) (.slice p2 a.days.xt.length c2)) 104)).alloc (by simp) (.cells (evCells b (.slice p3 b.days.ex.length c3) (.slice p4 b.days.xt.length c4)) 104)
  have S0 : EvBox w.heap.size a (.slice p1 a.days.ex.length c1) (.slice p2 a.days.xt.length c2) (w.alloc (.cells (evCells a (.slice p1 a.days.ex.length c1) (.slice p2 a.days.xt.length c2)) 104)) := heap_alloc_new w _
  have T0 : EvBox (w.heap.size + 1) b (.slice p3 b.days.ex.length c3) (.slice p4 b.days.xt.length c4) ((w.alloc (.cells (evCells a (.slice p1 a.days.ex.length c1) (.slice p2 a.days.xt.length c2)) 104)).alloc (.cells (evCells b (.slice p3 b.days.ex.length c3) (.slice p4 b.days.xt.length c4)) 104)) := by
    have := heap_alloc_new (w.alloc (.cells (evCells a (.slice p1 a.days.ex.length c1) (.slice p2 a.days.xt.length c2)) 104)) (.cells (evCells b (.slice p3 b.days.ex.length c3) (.slice p4 b.days.xt.length c4)) 104)
    simpa [EvBox] using this
  have HS := Lib.hid (S0.block (w' := (w.alloc (.cells (evCells a (.slice p1 a.days.ex.length c1) (.slice p2 a.days.xt.length c2)) 104)).alloc (.cells (evCells b (.slice p3 b.days.ex.length c3) (.slice p4 b.days.xt.length c4)) 104)) ((below_box _ _).block _ (by simp)))
  have HT := Lib.hid T0; have HB := Lib.hid hbx; have HI1 := Lib.hid (hI1.below (hbx.mono hB))
  have HI2 := Lib.hid (hI2.below (hbx.mono hB))
  have HI3 := Lib.hid (hI3.below (hbx.mono hB))
  have HI4 := Lib.hid (hI4.below (hbx.mono hB))
  clear hI1 hI2 hI3 hI4 S0 T0 hbx; obtain ⟨u, s, oc, d, st, mi, su, lo⟩ := a; obtain ⟨u', s', nc, d', st', mi', su', lo'⟩ := b; unfold evCells at *
  unfold evVal evCells
  simp only at *
  by_cases h1 : u = u'
  · subst h1; by_cases h2 : s = s'
    · subst h2; by_cases h3 : oc = nc
      · subst h3; have hcc : (oc == oc) = true := by simp
        go_enter Tryz.func41, Tryz.ntmps41
        go_wp2_with fail
        refine (sameser142 d d' B _ p1 p2 p3 p4 c1 c2 c3 c4 (by simp; omega) HI1.out HI2.out HI3.out HI4.out hn1 hn2).mono ?_
        rintro e w1 ⟨rfl, hb1⟩; have HA1 := Lib.hid (HS.out.block (hb1.block _ (by simp; omega)))
        have HA2 := Lib.hid (HT.out.block (hb1.block _ (by simp)))
        have HB1 := Lib.hid (HB.out.trans (hb1.mono (by simp; omega)))
        clear hb1; obtain ⟨-, -, -, -, -, -, -, -, -, c9, c10, c11, c12⟩ := HA1.out.c
        obtain ⟨-, -, -, -, -, -, -, -, -, d9, d10, d11, d12⟩ := HA2.out.c
        by_cases h4 : d = d'
        · subst h4; have HD4 := Lib.hid (show decide (d = d) = true from by simp)
          rw [HD4.out]
          by_cases h5 : st = st'
          · subst h5; by_cases h6 : mi = mi'
            · subst h6; by_cases h7 : su = su'
              · subst h7; by_cases h8 : lo = lo'
                · subst h8; have HD := Lib.hid (show decide ((⟨u, s, oc, d, st, mi, su, lo⟩ : Ev) = ⟨u, s, oc, d, st, mi, su, lo⟩) = true from by simp)
                  go_wp2_with fail
                  go_ret; exact ⟨ret_bool (by simp), HB1.out⟩
                · have HD := Lib.hid (ev_ne (a := ⟨u, s, oc, d, st, mi, su, lo⟩) (b := ⟨u, s, oc, d, st, mi, su, lo'⟩) (fun h => by injection h; exact h8 (by assumption)))
                  have hb := text_ne h8; clear h8; go_wp2_with fail
                  go_ret; exact ⟨ret_bool HD.out.symm, HB1.out⟩
              · have HD := Lib.hid (ev_ne (a := ⟨u, s, oc, d, st, mi, su, lo⟩) (b := ⟨u, s, oc, d, st, mi, su', lo'⟩) (fun h => by injection h; exact h7 (by assumption)))
                have hb := text_ne h7; clear h7; go_wp2_with fail
                go_ret; exact ⟨ret_bool HD.out.symm, HB1.out⟩
            · have HD := Lib.hid (ev_ne (a := ⟨u, s, oc, d, st, mi, su, lo⟩) (b := ⟨u, s, oc, d, st, mi', su', lo'⟩) (fun h => by injection h; exact h6 (by assumption)))
              have hb : (mi == mi') = false := by simpa using h6
              go_wp2_with fail
              go_ret; exact ⟨ret_bool HD.out.symm, HB1.out⟩
          · have HD := Lib.hid (ev_ne (a := ⟨u, s, oc, d, st, mi, su, lo⟩) (b := ⟨u, s, oc, d, st', mi', su', lo'⟩) (fun h => by injection h; exact h5 (by assumption)))
            have hb : (st == st') = false := by simpa using h5
            go_wp2_with fail
            go_ret; exact ⟨ret_bool HD.out.symm, HB1.out⟩
        · have HD := Lib.hid (ev_ne (a := ⟨u, s, oc, d, st, mi, su, lo⟩) (b := ⟨u, s, oc, d', st', mi', su', lo'⟩) (fun h => by injection h; exact h4 (by assumption)))
          have HD4 := Lib.hid (show decide (d = d') = false from by simpa using h4)
          rw [HD4.out]
          clear h4; go_wp2_with fail
          go_ret; exact ⟨ret_bool HD.out.symm, HB1.out⟩
      · have HD := Lib.hid (ev_ne (a := ⟨u, s, oc, d, st, mi, su, lo⟩) (b := ⟨u, s, nc, d', st', mi', su', lo'⟩) (fun h => by injection h; exact h3 (by assumption)))
        have hb : (oc == nc) = false := by simpa using h3
        go_enter Tryz.func41, Tryz.ntmps41
        go_wp2_with fail
        go_ret; exact ⟨ret_bool HD.out.symm, HB.out⟩
    · have HD := Lib.hid (ev_ne (a := ⟨u, s, oc, d, st, mi, su, lo⟩) (b := ⟨u, s', nc, d', st', mi', su', lo'⟩) (fun h => by injection h; exact h2 (by assumption)))
      have hb : (s == s') = false := by simpa using h2
      go_enter Tryz.func41, Tryz.ntmps41
      go_wp2_with fail
      go_ret; exact ⟨ret_bool HD.out.symm, HB.out⟩
  · have HD := Lib.hid (ev_ne (a := ⟨u, s, oc, d, st, mi, su, lo⟩) (b := ⟨u', s', nc, d', st', mi', su', lo'⟩) (fun h => by injection h; exact h1 (by assumption)))
    have hb := text_ne h1; clear h1; go_enter Tryz.func41, Tryz.ntmps41
    go_wp2_with fail
    go_ret; exact ⟨ret_bool HD.out.symm, HB.out⟩
end Go.Proofs.YtcomifbfldoeiaaGreatDoor
namespace Go.Proofs.YtcomifbfldoeiaaGreatDoor
open Go.RowKit

/-- Is what a reader holds valid? -/
def rdOk (v : Int) (es : List Ev) : Bool := !decide (v < 0 ∨ 64 < v) && !decide (256 < (es.length : Int)) && decide (evsV v none es = 0)
end Go.Proofs.YtcomifbfldoeiaaGreatDoor
namespace Go.Proofs.YtcomifbfldoeiaaGreatDoor
open Go.RowKit

/-- What an event refers to, in blocks below B. -/
def RefS (B : Nat) (w : World) (t : Ev × Value × Value) : Prop := EvB t.1 ∧ SlI B w t.2.1 t.1.days.ex ∧ SlI B w t.2.2 t.1.days.xt
/-- A stretch of events from an address on, in blocks below B. -/
structure Seg (B : Nat) (w : World) (ao : Option Addr) (ts : List (Ev × Value × Value)) : Prop where
  at' : ts = [] ∨ ∃ b o, ao = some ⟨b, o, none⟩ ∧ b < B ∧ ∀ (j : Nat) (u : Value), (tCells ts)[j]? = some u → w.cell? ⟨b, o + j, none⟩ = some u
  ref : ∀ t ∈ ts, RefS B w t

theorem Seg.nil (B : Nat) (w : World) (ao : Option Addr) : Seg B w ao [] := ⟨.inl rfl, fun t h => by cases h⟩

theorem seg_c {w : World} {b o : Nat} {ts : List (Ev × Value × Value)} (h : ∀ (j : Nat) (u : Value), (tCells ts)[j]? = some u → w.cell? ⟨b, o + j, none⟩ = some u) (j : Nat) (t : Ev × Value × Value) (ht : ts[j]? = some t) : EvC b (o + j * 13) t.1 t.2.1 t.2.2 w := by
  have hc : ∀ i u, i < 13 → (evCells t.1 t.2.1 t.2.2).toList[i]? = some u → w.cell? ⟨b, o + j * 13 + i, none⟩ = some u := fun i u hi hu => by
    rw [Nat.add_assoc]
    exact h (j * 13 + i) u (by rw [tCells_get ts j i t ht hi]; exact hu)
  refine ⟨?_, ?_, ?_, ?_, ?_, ?_, ?_, ?_, ?_, ?_, ?_, ?_, ?_⟩
  · exact hc 0 _ (by omega) rfl
  · exact hc 1 _ (by omega) rfl
  · exact hc 2 _ (by omega) rfl
  · exact hc 3 _ (by omega) rfl
  · exact hc 4 _ (by omega) rfl
  · exact hc 5 _ (by omega) rfl
  · exact hc 6 _ (by omega) rfl
  · exact hc 7 _ (by omega) rfl
  · exact hc 8 _ (by omega) rfl
  · exact hc 9 _ (by omega) rfl
  · exact hc 10 _ (by omega) rfl
  · exact hc 11 _ (by omega) rfl
  · exact hc 12 _ (by omega) rfl
end Go.Proofs.YtcomifbfldoeiaaGreatDoor
namespace Go.Proofs.YtcomifbfldoeiaaGreatDoor
open Go.RowKit

/-- Is an identifier ahead of another? -/
def lessU (a b : ByteArray) : Bool := Op.bytesLess a.toList b.toList

/-- The same on events alone. -/
def putE (e : Ev) : List Ev → List Ev
  | [] => [e]
  | s :: r => if lessU s.uid e.uid = true then s :: putE e r else if s.uid = e.uid then e :: r else e :: s :: r

end Go.Proofs.YtcomifbfldoeiaaGreatDoor
namespace Go.Proofs.YtcomifbfldoeiaaGreatDoor
open Go.RowKit

theorem lessU_iff (a b : ByteArray) : lessU a b = true ↔ a.toList < b.toList := by unfold lessU; rw [bytesLess_eq]; simp
theorem lessU_trans {a b c : ByteArray} (h : lessU a b = true) (k : lessU b c = true) : lessU a c = true := by
  rw [lessU_iff] at *; exact List.lt_trans h k
theorem lessU_irrefl (a : ByteArray) : lessU a a = false := by
  rw [← Bool.not_eq_true, lessU_iff]; exact List.lt_irrefl _
theorem late_less {p u : ByteArray} (h : lateU (some p) u = false) : lessU p u = true := by
  have h : (Op.bytesLess u.toList p.toList || u.toList == p.toList) = false := h
  rw [Bool.or_eq_false_iff] at h
  obtain ⟨h1, h2⟩ := h; rw [bytesLess_eq, decide_eq_false_iff_not] at h1
  rw [beq_eq_false_iff_ne] at h2
  rw [lessU_iff]
  exact Std.lt_of_le_of_ne (List.not_lt.1 h1) (fun e => h2 e.symm)

theorem less_late {p u : ByteArray} (h : lessU p u = true) : lateU (some p) u = false := by
  rw [lessU_iff] at h
  show (Op.bytesLess u.toList p.toList || u.toList == p.toList) = false
  rw [Bool.or_eq_false_iff, bytesLess_eq, decide_eq_false_iff_not, beq_eq_false_iff_ne]
  exact ⟨fun k => List.lt_irrefl _ (List.lt_trans h k), fun e => by rw [e] at h; exact List.lt_irrefl _ h⟩
theorem not_less_late {s u : ByteArray} (h : lessU s u = false) (hne : ¬ s = u) : lateU (some u) s = false := by
  show (Op.bytesLess s.toList u.toList || s.toList == u.toList) = false
  rw [Bool.or_eq_false_iff]
  exact ⟨h, text_ne hne⟩
theorem evsV_cons (v : Int) (p : Option ByteArray) (e : Ev) (r : List Ev) : evsV v p (e :: r) = 0 ↔ rightB e.uid.data.toList = true ∧ lateU p e.uid = false ∧ checkV e v = 0 ∧ evsV v (some e.uid) r = 0 := by
  rw [evsV]
  constructor
  · intro h; split at h
    · cases h
    · rename_i h1
      split at h
      · cases h
      · rename_i h2
        split at h
        · rename_i h3; exact absurd h h3
        · rename_i h3; exact ⟨by simpa using h1, by simpa using h2, by simpa using h3, h⟩
  · rintro ⟨h1, h2, h3, h4⟩; rw [if_neg (by rw [h1]; simp), if_neg (by rw [h2]; simp), if_neg (by rw [h3]; simp)]
    exact h4

/-- A sound event laid into a valid list leaves a valid list. -/
theorem evsV_put (v : Int) (e : Ev) (hr : rightB e.uid.data.toList = true) (hc : checkV e v = 0) : ∀ (es : List Ev) (p : Option ByteArray), lateU p e.uid = false → evsV v p es = 0 → evsV v p (putE e es) = 0
  | [], p, hp, _ => by
    show evsV v p [e] = 0
    exact (evsV_cons v p e []).2 ⟨hr, hp, hc, by rw [evsV]⟩
  | s :: r, p, hp, h => by
    obtain ⟨h1, h2, h3, h4⟩ := (evsV_cons v p s r).1 h
    unfold putE
    by_cases k1 : lessU s.uid e.uid = true
    · rw [if_pos k1]
      exact (evsV_cons v p s _).2 ⟨h1, h2, h3, evsV_put v e hr hc r (some s.uid) (less_late k1) h4⟩
    · rw [if_neg k1]
      by_cases k2 : s.uid = e.uid
      · rw [if_pos k2]
        exact (evsV_cons v p e r).2 ⟨hr, hp, hc, by rw [← k2]; exact h4⟩
      · rw [if_neg k2]
        exact (evsV_cons v p e _).2 ⟨hr, hp, hc, (evsV_cons v _ s r).2 ⟨h1, not_less_late (by simpa using k1) k2, h3, h4⟩⟩
theorem checkV_mono {e : Ev} {v v' : Int} (h : checkV e v = 0) (hv : v ≤ v') : checkV e v' = 0 := by
  unfold checkV at h ⊢
  by_cases h1 : e.seq < 1 ∨ v < e.seq
  · rw [if_pos h1] at h; cases h
  · rw [if_neg h1] at h
    rw [if_neg (by omega)]
    exact h
theorem evsV_mono {v v' : Int} (hv : v ≤ v') : ∀ (es : List Ev) (p : Option ByteArray), evsV v p es = 0 → evsV v' p es = 0
  | [], _, _ => by rw [evsV]
  | s :: r, p, h => by
    obtain ⟨h1, h2, h3, h4⟩ := (evsV_cons v p s r).1 h
    exact (evsV_cons v' p s r).2 ⟨h1, h2, checkV_mono h3 hv, evsV_mono hv r _ h4⟩

end Go.Proofs.YtcomifbfldoeiaaGreatDoor
namespace Go.Proofs.YtcomifbfldoeiaaGreatDoor
open Go.RowKit

/-- How an identifier compares with another. -/
def cmpU (a b : ByteArray) : Int := Lib.compareBytes a.data.toList b.data.toList

/-- Is a given event ahead of the place sought? -/
def ahead (es : List Ev) (u : ByteArray) (k : Nat) : Prop := ∃ e, es[k]? = some e ∧ cmpU e.uid u < 0
end Go.Proofs.YtcomifbfldoeiaaGreatDoor
namespace Go.Proofs.YtcomifbfldoeiaaGreatDoor
open Go.RowKit

theorem compare_less : ∀ x y : List UInt8, (Lib.compareBytes x y < 0 ↔ x < y) ∧ (Lib.compareBytes x y = 0 ↔ x = y)
  | [], [] => by simp [Lib.compareBytes]
  | [], _ :: _ => by simp [Lib.compareBytes]
  | _ :: _, [] => by simp [Lib.compareBytes]
  | a :: xs, b :: ys => by
    obtain ⟨h1, h2⟩ := compare_less xs ys
    unfold Lib.compareBytes
    by_cases k1 : a < b
    · rw [if_pos k1]
      have hne : ¬ a = b := fun e => by rw [e] at k1; exact absurd k1 (UInt8.lt_irrefl _)
      simp [List.cons_lt_cons_iff, k1, hne]
    · rw [if_neg k1]
      by_cases k2 : b < a
      · rw [if_pos k2]
        have hne : ¬ a = b := fun e => by rw [e] at k2; exact absurd k2 (UInt8.lt_irrefl _)
        simp [List.cons_lt_cons_iff, k1, hne]
      · rw [if_neg k2]
        have he : a = b := UInt8.le_antisymm (UInt8.not_lt.1 k2) (UInt8.not_lt.1 k1)
        subst he; simp [h1, h2]
theorem cmpU_less (a b : ByteArray) : cmpU a b < 0 ↔ lessU a b = true := by
  rw [lessU_iff, Lib.toList_data, Lib.toList_data]; exact (compare_less _ _).1
end Go.Proofs.YtcomifbfldoeiaaGreatDoor
namespace Go.Proofs.YtcomifbfldoeiaaGreatDoor
open Go.RowKit

theorem evsV_each (v : Int) : ∀ (es : List Ev) (p : Option ByteArray), evsV v p es = 0 → ∀ e ∈ es, rightB e.uid.data.toList = true ∧ checkV e v = 0
  | [], _, _, _, he => by cases he
  | s :: r, p, h, e, he => by
    obtain ⟨h1, h2, h3, h4⟩ := (evsV_cons v p s r).1 h
    rcases List.mem_cons.1 he with rfl | he
    · exact ⟨h1, h3⟩
    · exact evsV_each v r _ h4 e he
theorem putE_len (e : Ev) : ∀ es : List Ev, (putE e es).length ≤ es.length + 1
  | [] => Nat.le_refl _
  | s :: r => by
    unfold putE
    split
    · simpa using putE_len e r
    · split <;> simp
/-- The reader behind a feed is valid. -/
theorem rdOk_iff (v : Int) (es : List Ev) : rdOk v es = true ↔ 0 ≤ v ∧ v ≤ 64 ∧ es.length ≤ 256 ∧ evsV v none es = 0 := by
  unfold rdOk
  simp only [Bool.and_eq_true, Bool.not_eq_true', decide_eq_false_iff_not, decide_eq_true_eq]
  omega
end Go.Proofs.YtcomifbfldoeiaaGreatDoor
