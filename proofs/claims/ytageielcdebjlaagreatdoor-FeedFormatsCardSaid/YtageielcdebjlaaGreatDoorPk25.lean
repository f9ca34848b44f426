/- Regions that only make blocks; an event's block filled anew. No function of the program in sight. Condition: none. timetableref39.Same: its contract: are two series the same? timetableref40.SameEvent: its contract. timetableref40.SameEvents: its contract. timetableref40.Valid: its contract. -/
import Derived.Test.YtageielcdebjlaaGreatDoorCondAll
import Derived.Test.YtageielcdebjlaaGreatDoorFeedV
import Derived.StillTailTactics
namespace Go.Proofs.YtageielcdebjlaaGreatDoor
open Go.RowKit

/-- What a drawn region has done so far: it has made blocks. -/
structure Made (w w' : World) : Prop where
  below : Below w.heap.size w w'
theorem Made.start (w : World) : Made w w.drew := ⟨below_drw (Below.refl _ w)⟩
theorem Made.then {w w1 w2 : World} (h : Made w w1) (k : Below w1.heap.size w1 w2) : Made w w2 := ⟨below_then h.below k⟩
theorem Made.alloc {w w1 : World} (h : Made w w1) (o : Obj) : Made w (w1.alloc o) := h.then (below_box _ _)
theorem Made.blk {w w1 : World} (h : Made w w1) {g : Nat} {cs : Array Value} {ty : TypeId} (k : Blk g cs ty w) : Blk g cs ty w1 := k.below h.below k.lt
theorem row_made {w w' : World} {B k : Nat} {e : TypeId} {v : Value} {n : Nat} {xs : List Value} (h : w.ownsRow B e k v n xs) (hb : Below w.heap.size w w') : w'.ownsRow B e k v n xs := by
  refine ⟨h.1, ?_⟩
  rcases h.2 with h1 | ⟨g, cap, cur, r1, r2, r3, r4⟩
  · exact .inl h1
  · exact .inr ⟨g, cap, cur, r1, r2, (hb.block g (Array.getElem?_eq_some_iff.1 r3).1).trans r3, r4⟩
theorem Kept.made {B : Nat} {w w' : World} (h : Below w.heap.size w w') : Kept B w w' := fun _ _ _ _ hk => hk.below h hk.lt

end Go.Proofs.YtageielcdebjlaaGreatDoor
namespace Go.Proofs.YtageielcdebjlaaGreatDoor
open Go.RowKit

theorem list_parts {xs ys : List Int} {n : Nat} (hx : xs.length = n) (hy : ys.length = n) (h : ∀ j, j < n → xs[j]? = ys[j]?) : xs = ys := by
  apply List.ext_getElem?
  intro j; rcases Nat.lt_or_ge j n with hj | hj
  · exact h j hj
  · rw [List.getElem?_eq_none (by omega), List.getElem?_eq_none (by omega)]

set_option maxHeartbeats 4000000 in
set_option maxRecDepth 100000 in
theorem sameser142 (s t : Tt.Ser) (B : Nat) (w : World) (p1 p2 p3 p4 : Option Addr) (c1 c2 c3 c4 : Nat) (hB : B ≤ w.heap.size) (hI1 : Ints B w p1 s.ex) (hI2 : Ints B w p2 s.xt) (hI3 : Ints B w p3 t.ex) (hI4 : Ints B w p4 t.xt) (hn1 : s.ex.length ≤ 4611686018427387903) (hn2 : s.xt.length ≤ 4611686018427387903) :
    Calls Tryz.prog 142 #[serVal s (.slice p1 s.ex.length c1) (.slice p2 s.xt.length c2), serVal t (.slice p3 t.ex.length c3) (.slice p4 t.xt.length c4)] w fun e w' => e = .returned (.bool (decide (s = t))) ∧ Below w.heap.size w w' := by
  obtain ⟨f, l, e, m, ex, xt⟩ := s; obtain ⟨f', l', e', m', ex', xt'⟩ := t; simp only at *
  have HI1 := Lib.hid hI1; have HI2 := Lib.hid hI2; have HI3 := Lib.hid hI3; have HI4 := Lib.hid hI4; clear hI1 hI2 hI3 hI4; unfold serVal
  by_cases hq : f = f' ∧ l = l' ∧ e = e' ∧ m = m' ∧ ex.length = ex'.length ∧ xt.length = xt'.length
  · obtain ⟨rfl, rfl, rfl, rfl, hl1, hl2⟩ := hq; rw [← hl1, ← hl2]
    obtain ⟨n, hn⟩ : ∃ n, n = ex.length := ⟨_, rfl⟩
    obtain ⟨o, ho⟩ : ∃ o, o = xt.length := ⟨_, rfl⟩
    rw [← hn] at hn1 hl1 ⊢
    rw [← ho] at hn2 hl2 ⊢
    have HN := Lib.hid hn; have HO := Lib.hid ho; have HL1 := Lib.hid hl1; have HL2 := Lib.hid hl2; clear hn ho hl1 hl2; have S0 : SerAt w.heap.size ⟨f, l, e, m, ex, xt⟩ (.slice p1 n c1) (.slice p2 o c2) (w.alloc (.cells #[.int .i64 f, .int .i64 l, .int .i64 e, .int .i64 m, .slice p1 n c1, .slice p2 o c2] 80)) := heap_alloc_new w _
    have T0 : SerAt (w.heap.size + 1) ⟨f, l, e, m, ex', xt'⟩ (.slice p3 n c3) (.slice p4 o c4) ((w.alloc (.cells #[.int .i64 f, .int .i64 l, .int .i64 e, .int .i64 m, .slice p1 n c1, .slice p2 o c2] 80)).alloc (.cells #[.int .i64 f, .int .i64 l, .int .i64 e, .int .i64 m, .slice p3 n c3, .slice p4 o c4] 80)) := by
      have := heap_alloc_new (w.alloc (.cells #[.int .i64 f, .int .i64 l, .int .i64 e, .int .i64 m, .slice p1 n c1, .slice p2 o c2] 80)) (.cells #[.int .i64 f, .int .i64 l, .int .i64 e, .int .i64 m, .slice p3 n c3, .slice p4 o c4] 80)
      simpa [SerAt] using this
    have HB := Lib.hid ((below_box w (.cells #[.int .i64 f, .int .i64 l, .int .i64 e, .int .i64 m, .slice p1 n c1, .slice p2 o c2] 80)).alloc (by simp) (.cells #[.int .i64 f, .int .i64 l, .int .i64 e, .int .i64 m, .slice p3 n c3, .slice p4 o c4] 80))
    have HS := Lib.hid (S0.block (w' := (w.alloc (.cells #[.int .i64 f, .int .i64 l, .int .i64 e, .int .i64 m, .slice p1 n c1, .slice p2 o c2] 80)).alloc (.cells #[.int .i64 f, .int .i64 l, .int .i64 e, .int .i64 m, .slice p3 n c3, .slice p4 o c4] 80)) ((below_box _ _).block _ (by simp)))
    have HT := Lib.hid T0; clear S0 T0; go_enter Tryz.func142, Tryz.ntmps142
    go_wp2_with fail
    go_loopw [5] (fun iv wr => ∃ k : Nat, iv = .int .i64 k ∧ k ≤ n ∧ Hid (Below w.heap.size w wr) ∧ Hid (SerAt w.heap.size ⟨f, l, e, m, ex, xt⟩ (.slice p1 n c1) (.slice p2 o c2) wr) ∧ Hid (SerAt (w.heap.size + 1) ⟨f, l, e, m, ex', xt'⟩ (.slice p3 n c3) (.slice p4 o c4) wr) ∧ Hid (∀ j, j < k → ex[j]? = ex'[j]?)) (fun iv _ => n - (intOf iv).toNat)
    case atStart => exact ⟨0, rfl, Nat.zero_le _, HB, HS, HT, Lib.hid (fun j h => absurd h (Nat.not_lt_zero _))⟩
    case round =>
      obtain ⟨k, rfl, hk, HBr, HA, HA2, HE⟩ := hrel; obtain ⟨-, -, -, -, e4, e5⟩ := HA.out.cells
      obtain ⟨-, -, -, -, f4, f5⟩ := HA2.out.cells
      by_cases hlt : k < n
      · have hx : k < ex.length := by rw [← HN.out]; exact hlt
        have hy : k < ex'.length := by rw [← HL1.out]; exact hlt
        obtain ⟨a, rfl, ha, hca⟩ := HI1.out k _ (List.getElem?_eq_getElem hx)
        obtain ⟨a', rfl, ha', hcb⟩ := HI3.out k _ (List.getElem?_eq_getElem hy)
        obtain ⟨x, hxe⟩ : ∃ x, x = ex[k] := ⟨_, rfl⟩
        obtain ⟨y, hye⟩ : ∃ y, y = ex'[k] := ⟨_, rfl⟩
        rw [← hxe] at hca
        rw [← hye] at hcb
        have HXE := Lib.hid hxe; have HYE := Lib.hid hye; clear hxe hye; have hca := (HBr.out.cell (p := a.add k) (by rw [addr_add_block]; omega)).trans hca
        have hcb := (HBr.out.cell (p := a'.add k) (by rw [addr_add_block]; omega)).trans hcb
        have hlt2 : (k : Int) < n := by omega
        by_cases he : x = y
        · have hb : (x != y) = false := by simp [he]
          have HS2 := Lib.hid (show ∀ j, j < k + 1 → ex[j]? = ex'[j]? from by
            intro j hj; rcases Nat.lt_or_ge j k with h | h
            · exact HE.out j h
            · obtain rfl : j = k := by omega
              rw [List.getElem?_eq_getElem hx, List.getElem?_eq_getElem hy, ← HXE.out, ← HYE.out, he])
          clear he; go_wp2_with fail
          go_quiet (fail)
          go_wp2_with fail
          go_roundw
          case rel => exact ⟨k + 1, by go_num, by omega, Lib.hid (below_drew HBr.out), Lib.hid (HA.out.block (by simp)), Lib.hid (HA2.out.block (by simp)), HS2⟩
          case measure => simp [intOf]; omega
        · have hb : (x != y) = true := by simp [he]
          have HD := Lib.hid (show decide ((⟨f, l, e, m, ex, xt⟩ : Tt.Ser) = ⟨f, l, e, m, ex', xt'⟩) = false from by
            rw [decide_eq_false_iff_not]
            intro h; injection h with a1 a2 a3 a4 a5 a6
            exact he (by rw [HXE.out, HYE.out]; simp [a5]))
          clear he; go_wp2_with fail
          go_quiet (fail)
          go_wp2_with fail
          go_ret; exact ⟨ret_bool HD.out.symm, below_drew HBr.out⟩
      · have hlt2 : ¬ (k : Int) < n := by omega
        have HX := Lib.hid (show ex = ex' from list_parts HN.out.symm HL1.out.symm (fun j hj => HE.out j (by omega)))
        clear HE hk hlt; go_wp2_with fail
        go_loopw [6] (fun iv wq => ∃ k : Nat, iv = .int .i64 k ∧ k ≤ o ∧ Hid (Below w.heap.size w wq) ∧ Hid (SerAt w.heap.size ⟨f, l, e, m, ex, xt⟩ (.slice p1 n c1) (.slice p2 o c2) wq) ∧ Hid (SerAt (w.heap.size + 1) ⟨f, l, e, m, ex', xt'⟩ (.slice p3 n c3) (.slice p4 o c4) wq) ∧ Hid (∀ j, j < k → xt[j]? = xt'[j]?)) (fun iv _ => o - (intOf iv).toNat)
        case atStart => exact ⟨0, rfl, Nat.zero_le _, HBr, HA, HA2, Lib.hid (fun j h => absurd h (Nat.not_lt_zero _))⟩
        case round =>
          clear e4 e5 f4 f5; obtain ⟨k, rfl, hk, HBr, HA, HA2, HE⟩ := hrel; obtain ⟨-, -, -, -, e4, e5⟩ := HA.out.cells
          obtain ⟨-, -, -, -, f4, f5⟩ := HA2.out.cells
          by_cases hlt : k < o
          · have hx : k < xt.length := by rw [← HO.out]; exact hlt
            have hy : k < xt'.length := by rw [← HL2.out]; exact hlt
            obtain ⟨a, rfl, ha, hca⟩ := HI2.out k _ (List.getElem?_eq_getElem hx)
            obtain ⟨a', rfl, ha', hcb⟩ := HI4.out k _ (List.getElem?_eq_getElem hy)
            obtain ⟨x, hxe⟩ : ∃ x, x = xt[k] := ⟨_, rfl⟩
            obtain ⟨y, hye⟩ : ∃ y, y = xt'[k] := ⟨_, rfl⟩
            rw [← hxe] at hca
            rw [← hye] at hcb
            have HXE := Lib.hid hxe; have HYE := Lib.hid hye; clear hxe hye; have hca := (HBr.out.cell (p := a.add k) (by rw [addr_add_block]; omega)).trans hca
            have hcb := (HBr.out.cell (p := a'.add k) (by rw [addr_add_block]; omega)).trans hcb
            have hlt2 : (k : Int) < o := by omega
            by_cases he : x = y
            · have hb : (x != y) = false := by simp [he]
              have HS2 := Lib.hid (show ∀ j, j < k + 1 → xt[j]? = xt'[j]? from by
                intro j hj; rcases Nat.lt_or_ge j k with h | h
                · exact HE.out j h
                · obtain rfl : j = k := by omega
                  rw [List.getElem?_eq_getElem hx, List.getElem?_eq_getElem hy, ← HXE.out, ← HYE.out, he])
              clear he; go_wp2_with fail
              go_quiet (fail)
              go_wp2_with fail
              go_roundw
              case rel => exact ⟨k + 1, by go_num, by omega, Lib.hid (below_drew HBr.out), Lib.hid (HA.out.block (by simp)), Lib.hid (HA2.out.block (by simp)), HS2⟩
              case measure => simp [intOf]; omega
            · have hb : (x != y) = true := by simp [he]
              have HD := Lib.hid (show decide ((⟨f, l, e, m, ex, xt⟩ : Tt.Ser) = ⟨f, l, e, m, ex', xt'⟩) = false from by
                rw [decide_eq_false_iff_not]
                intro h; injection h with a1 a2 a3 a4 a5 a6
                exact he (by rw [HXE.out, HYE.out]; simp [a6]))
              clear he; go_wp2_with fail
              go_quiet (fail)
              go_wp2_with fail
              go_ret; exact ⟨ret_bool HD.out.symm, below_drew HBr.out⟩
          · have hlt2 : ¬ (k : Int) < o := by omega
            have HY := Lib.hid (show xt = xt' from list_parts HO.out.symm HL2.out.symm (fun j hj => HE.out j (by omega)))
            have HD := Lib.hid (show decide ((⟨f, l, e, m, ex, xt⟩ : Tt.Ser) = ⟨f, l, e, m, ex', xt'⟩) = true from by rw [HX.out, HY.out]; simp)
            go_wp2_with fail
            go_ret; exact ⟨ret_bool (by simpa using HD.out.symm), HBr.out⟩
  · have HD := Lib.hid (show decide ((⟨f, l, e, m, ex, xt⟩ : Tt.Ser) = ⟨f', l', e', m', ex', xt'⟩) = false from by
      rw [decide_eq_false_iff_not]
      intro h; injection h with a1 a2 a3 a4 a5 a6
      exact hq ⟨a1, a2, a3, a4, by rw [a5], by rw [a6]⟩)
    go_enter Tryz.func142, Tryz.ntmps142
    go_wp2_with fail
    all_goals
      go_ret; exact ⟨ret_bool HD.out.symm, (below_box _ _).trans ((below_box _ _).mono (by simp))⟩
end Go.Proofs.YtageielcdebjlaaGreatDoor
namespace Go.Proofs.YtageielcdebjlaaGreatDoor
open Go.RowKit

deriving instance DecidableEq for Ev

theorem text_ne {x y : ByteArray} (he : ¬ x = y) : (x.toList == y.toList) = false := by
  rw [beq_eq_false_iff_ne]; intro h; rw [Lib.toList_data, Lib.toList_data] at h; exact he (ByteArray.ext (Array.toList_inj.mp h))
theorem ev_ne {a b : Ev} (h : ¬ a = b) : decide (a = b) = false := by simpa using h

set_option maxHeartbeats 8000000 in
set_option maxRecDepth 100000 in
theorem sameev71 (a b : Ev) (B : Nat) (w : World) (p1 p2 p3 p4 : Option Addr) (c1 c2 c3 c4 : Nat) (hB : B ≤ w.heap.size) (hI1 : Ints B w p1 a.days.ex) (hI2 : Ints B w p2 a.days.xt) (hI3 : Ints B w p3 b.days.ex) (hI4 : Ints B w p4 b.days.xt) (hn1 : a.days.ex.length ≤ 4611686018427387903) (hn2 : a.days.xt.length ≤ 4611686018427387903) :
    Calls Tryz.prog 71 #[evVal a (.slice p1 a.days.ex.length c1) (.slice p2 a.days.xt.length c2), evVal b (.slice p3 b.days.ex.length c3) (.slice p4 b.days.xt.length c4)] w fun e w' => e = .returned (.bool (decide (a = b))) ∧ Below w.heap.size w w' := by
  have hbx := (below_box w (.cells (evCells a (.slice p1 a.days.ex.length c1) (.slice p2 a.days.xt.length c2)) 82)).alloc (by simp) (.cells (evCells b (.slice p3 b.days.ex.length c3) (.slice p4 b.days.xt.length c4)) 82)
  have S0 : EvBox w.heap.size a (.slice p1 a.days.ex.length c1) (.slice p2 a.days.xt.length c2) (w.alloc (.cells (evCells a (.slice p1 a.days.ex.length c1) (.slice p2 a.days.xt.length c2)) 82)) := heap_alloc_new w _
  have T0 : EvBox (w.heap.size + 1) b (.slice p3 b.days.ex.length c3) (.slice p4 b.days.xt.length c4) ((w.alloc (.cells (evCells a (.slice p1 a.days.ex.length c1) (.slice p2 a.days.xt.length c2)) 82)).alloc (.cells (evCells b (.slice p3 b.days.ex.length c3) (.slice p4 b.days.xt.length c4)) 82)) := by
    have := heap_alloc_new (w.alloc (.cells (evCells a (.slice p1 a.days.ex.length c1) (.slice p2 a.days.xt.length c2)) 82)) (.cells (evCells b (.slice p3 b.days.ex.length c3) (.slice p4 b.days.xt.length c4)) 82)
    simpa [EvBox] using this
  have HS := Lib.hid (S0.block (w' := (w.alloc (.cells (evCells a (.slice p1 a.days.ex.length c1) (.slice p2 a.days.xt.length c2)) 82)).alloc (.cells (evCells b (.slice p3 b.days.ex.length c3) (.slice p4 b.days.xt.length c4)) 82)) ((below_box _ _).block _ (by simp)))
  have HT := Lib.hid T0; have HB := Lib.hid hbx; have HI1 := Lib.hid (hI1.below (hbx.mono hB))
  have HI2 := Lib.hid (hI2.below (hbx.mono hB))
  have HI3 := Lib.hid (hI3.below (hbx.mono hB))
  have HI4 := Lib.hid (hI4.below (hbx.mono hB))
  clear hI1 hI2 hI3 hI4 S0 T0 hbx; obtain ⟨u, s, oc, d, st, mi, su, lo⟩ := a; obtain ⟨u', s', nc, d', st', mi', su', lo'⟩ := b; unfold evCells at *
  unfold evVal evCells
  simp only at *
  by_cases h1 : u = u'
  · subst h1; by_cases h2 : s = s'
    · subst h2; by_cases h3 : oc = nc
      · subst h3; have hcc : (oc == oc) = true := by simp
        go_enter Tryz.func71, Tryz.ntmps71
        go_wp2_with fail
        refine (sameser142 d d' B _ p1 p2 p3 p4 c1 c2 c3 c4 (by simp; omega) HI1.out HI2.out HI3.out HI4.out hn1 hn2).mono ?_
        rintro e w1 ⟨rfl, hb1⟩; have HA1 := Lib.hid (HS.out.block (hb1.block _ (by simp; omega)))
        have HA2 := Lib.hid (HT.out.block (hb1.block _ (by simp)))
        have HB1 := Lib.hid (HB.out.trans (hb1.mono (by simp; omega)))
        clear hb1; obtain ⟨-, -, -, -, -, -, -, -, -, c9, c10, c11, c12⟩ := HA1.out.c
        obtain ⟨-, -, -, -, -, -, -, -, -, d9, d10, d11, d12⟩ := HA2.out.c
        by_cases h4 : d = d'
        · subst h4; have HD4 := Lib.hid (show decide (d = d) = true from by simp)
          rw [HD4.out]
          by_cases h5 : st = st'
          · subst h5; by_cases h6 : mi = mi'
            · subst h6; by_cases h7 : su = su'
              · subst h7; by_cases h8 : lo = lo'
                · subst h8; have HD := Lib.hid (show decide ((⟨u, s, oc, d, st, mi, su, lo⟩ : Ev) = ⟨u, s, oc, d, st, mi, su, lo⟩) = true from by simp)
                  go_wp2_with fail
                  go_ret; exact ⟨ret_bool (by simp), HB1.out⟩
                · have HD := Lib.hid (ev_ne (a := ⟨u, s, oc, d, st, mi, su, lo⟩) (b := ⟨u, s, oc, d, st, mi, su, lo'⟩) (fun h => by injection h; exact h8 (by assumption)))
                  have hb := text_ne h8; clear h8; go_wp2_with fail
                  go_ret; exact ⟨ret_bool HD.out.symm, HB1.out⟩
              · have HD := Lib.hid (ev_ne (a := ⟨u, s, oc, d, st, mi, su, lo⟩) (b := ⟨u, s, oc, d, st, mi, su', lo'⟩) (fun h => by injection h; exact h7 (by assumption)))
                have hb := text_ne h7; clear h7; go_wp2_with fail
                go_ret; exact ⟨ret_bool HD.out.symm, HB1.out⟩
            · have HD := Lib.hid (ev_ne (a := ⟨u, s, oc, d, st, mi, su, lo⟩) (b := ⟨u, s, oc, d, st, mi', su', lo'⟩) (fun h => by injection h; exact h6 (by assumption)))
              have hb : (mi == mi') = false := by simpa using h6
              go_wp2_with fail
              go_ret; exact ⟨ret_bool HD.out.symm, HB1.out⟩
          · have HD := Lib.hid (ev_ne (a := ⟨u, s, oc, d, st, mi, su, lo⟩) (b := ⟨u, s, oc, d, st', mi', su', lo'⟩) (fun h => by injection h; exact h5 (by assumption)))
            have hb : (st == st') = false := by simpa using h5
            go_wp2_with fail
            go_ret; exact ⟨ret_bool HD.out.symm, HB1.out⟩
        · have HD := Lib.hid (ev_ne (a := ⟨u, s, oc, d, st, mi, su, lo⟩) (b := ⟨u, s, oc, d', st', mi', su', lo'⟩) (fun h => by injection h; exact h4 (by assumption)))
          have HD4 := Lib.hid (show decide (d = d') = false from by simpa using h4)
          rw [HD4.out]
          clear h4; go_wp2_with fail
          go_ret; exact ⟨ret_bool HD.out.symm, HB1.out⟩
      · have HD := Lib.hid (ev_ne (a := ⟨u, s, oc, d, st, mi, su, lo⟩) (b := ⟨u, s, nc, d', st', mi', su', lo'⟩) (fun h => by injection h; exact h3 (by assumption)))
        have hb : (oc == nc) = false := by simpa using h3
        go_enter Tryz.func71, Tryz.ntmps71
        go_wp2_with fail
        go_ret; exact ⟨ret_bool HD.out.symm, HB.out⟩
    · have HD := Lib.hid (ev_ne (a := ⟨u, s, oc, d, st, mi, su, lo⟩) (b := ⟨u, s', nc, d', st', mi', su', lo'⟩) (fun h => by injection h; exact h2 (by assumption)))
      have hb : (s == s') = false := by simpa using h2
      go_enter Tryz.func71, Tryz.ntmps71
      go_wp2_with fail
      go_ret; exact ⟨ret_bool HD.out.symm, HB.out⟩
  · have HD := Lib.hid (ev_ne (a := ⟨u, s, oc, d, st, mi, su, lo⟩) (b := ⟨u', s', nc, d', st', mi', su', lo'⟩) (fun h => by injection h; exact h1 (by assumption)))
    have hb := text_ne h1; clear h1; go_enter Tryz.func71, Tryz.ntmps71
    go_wp2_with fail
    go_ret; exact ⟨ret_bool HD.out.symm, HB.out⟩
end Go.Proofs.YtageielcdebjlaaGreatDoor
namespace Go.Proofs.YtageielcdebjlaaGreatDoor
open Go.RowKit

theorem list_parts2 {α : Type} {xs ys : List α} {n : Nat} (hx : xs.length = n) (hy : ys.length = n) (h : ∀ j, j < n → xs[j]? = ys[j]?) : xs = ys := by
  apply List.ext_getElem?
  intro j; rcases Nat.lt_or_ge j n with hj | hj
  · exact h j hj
  · rw [List.getElem?_eq_none (by omega), List.getElem?_eq_none (by omega)]

set_option maxHeartbeats 8000000 in
set_option maxRecDepth 100000 in
theorem sameevs65 (xs ys : List Ev) (ao bo : Option Addr) (c d : Nat) (B : Nat) (w : World) (hB : B ≤ w.heap.size) (hX : Evs B w ao xs) (hY : Evs B w bo ys) (hn : xs.length ≤ 4611686018427387903) :
    Calls Tryz.prog 65 #[.slice ao xs.length c, .slice bo ys.length d] w fun e w' => e = .returned (.bool (decide (xs = ys))) ∧ Below w.heap.size w w' := by
  by_cases hl : xs.length = ys.length
  · have HX := Lib.hid hX; have HY := Lib.hid hY
    clear hX hY; obtain ⟨n, hn1⟩ : ∃ n, n = xs.length := ⟨_, rfl⟩
    rw [← hl]; rw [← hn1] at hn hl ⊢
    have HN := Lib.hid hn1; have HL := Lib.hid hl; clear hn1 hl; go_enter Tryz.func65, Tryz.ntmps65
    go_wp2_with fail
    go_loopw [5] (fun iv wr => ∃ k : Nat, k ≤ n ∧ iv = .int .i64 k ∧ Hid (Below w.heap.size w wr) ∧ Hid (∀ j, j < k → xs[j]? = ys[j]?)) (fun iv _ => n - (intOf iv).toNat)
    case atStart => exact ⟨0, Nat.zero_le _, rfl, Lib.hid (Below.refl _ _), Lib.hid (fun j h => absurd h (Nat.not_lt_zero _))⟩
    case round =>
      obtain ⟨k, hk, rfl, HBr, HE⟩ := hrel; by_cases hlt : k < n
      · have hx : k < xs.length := by rw [← HN.out]; exact hlt
        have hy : k < ys.length := by rw [← HL.out]; exact hlt
        have hlti : (k : Int) < n := by omega
        rcases HX.out with h | ⟨g, o, rfl, hg, hcx⟩
        · rw [h] at hx; simp at hx
        rcases HY.out with h | ⟨g', o', rfl, hg', hcy⟩
        · rw [h] at hy; simp at hy
        obtain ⟨hEa, _, _, hCa, ⟨ax, cx, rfl, hI1⟩, ⟨ay, cy, rfl, hI2⟩⟩ := hcx k _ (List.getElem?_eq_getElem hx)
        obtain ⟨hEb, _, _, hCb, ⟨bx, dx, rfl, hI3⟩, ⟨bY, dy, rfl, hI4⟩⟩ := hcy k _ (List.getElem?_eq_getElem hy)
        obtain ⟨x, hxe⟩ : ∃ x, x = xs[k] := ⟨_, rfl⟩
        obtain ⟨y, hye⟩ : ∃ y, y = ys[k] := ⟨_, rfl⟩
        rw [← hxe] at hEa hCa hI1 hI2
        rw [← hye] at hEb hCb hI3 hI4
        have HXE := Lib.hid hxe; have HYE := Lib.hid hye; have HI1 := Lib.hid (hI1.below (HBr.out.mono hB))
        have HI2 := Lib.hid (hI2.below (HBr.out.mono hB))
        have HI3 := Lib.hid (hI3.below (HBr.out.mono hB))
        have HI4 := Lib.hid (hI4.below (HBr.out.mono hB))
        have HEa := Lib.hid hEa; have hsz := HBr.out.size; have hCa' := hCa.below hg (HBr.out.mono hB)
        have hCb' := hCb.below hg' (HBr.out.mono hB)
        clear hxe hye hcx hcy hEa hEb hCa hCb hI1 hI2 hI3 hI4; obtain ⟨c0, c1, c2, c3, c4, c5, c6, c7, c8, c9, c10, c11, c12⟩ := hCa'; obtain ⟨d0, d1, d2, d3, d4, d5, d6, d7, d8, d9, d10, d11, d12⟩ := hCb'; go_wp2_with fail
        go_still_tail 8, (by kernel_rfl)
        change wpList _ _ _ _ _ wr.drew
        go_wp2_with fail
        refine (sameev71 x y B _ ax ay bx bY cx cy dx dy (Nat.le_trans hB HBr.out.drew.size) HI1.out HI2.out HI3.out HI4.out HEa.out.ex HEa.out.xt).mono ?_
        rintro z w1 ⟨rfl, hb1⟩; have HB1 := Lib.hid (below_then HBr.out.drew hb1)
        clear hb1; by_cases he : x = y
        · have HS2 := Lib.hid (show ∀ j, j < k + 1 → xs[j]? = ys[j]? from by
            intro j hj; rcases Nat.lt_or_ge j k with h | h
            · exact HE.out j h
            · obtain rfl : j = k := by omega
              rw [List.getElem?_eq_getElem hx, List.getElem?_eq_getElem hy, ← HXE.out, ← HYE.out, he])
          have HD := Lib.hid (show decide (x = y) = true from by simpa using he)
          rw [HD.out]
          clear he; go_wp2_with fail
          go_roundw
          case rel => exact ⟨k + 1, by omega, by go_num, HB1, HS2⟩
          case measure => simp [intOf]; omega
        · have HD := Lib.hid (show decide (x = y) = false from by simpa using he)
          have HR := Lib.hid (show decide (xs = ys) = false from by
            rw [decide_eq_false_iff_not]
            intro e; exact he (by rw [HXE.out, HYE.out]; simp [e]))
          rw [HD.out]
          clear he; go_wp2_with fail
          go_ret; exact ⟨ret_bool HR.out.symm, HB1.out⟩
      · have hlti : ¬ (k : Int) < n := by omega
        have HD := Lib.hid (show decide (xs = ys) = true from by
          rw [decide_eq_true_iff]
          exact list_parts2 HN.out.symm HL.out.symm (fun j hj => HE.out j (by omega)))
        go_wp2_with fail
        go_ret; exact ⟨ret_bool HD.out.symm, HBr.out⟩
  · have HD := Lib.hid (show decide (xs = ys) = false from by
      rw [decide_eq_false_iff_not]
      intro e; exact hl (by rw [e]))
    have hb : ((xs.length : Int) != ys.length) = true := by simp; omega
    go_enter Tryz.func65, Tryz.ntmps65
    go_wp2_with fail
    go_ret; exact ⟨ret_bool HD.out.symm, Below.refl _ _⟩
end Go.Proofs.YtageielcdebjlaaGreatDoor
namespace Go.Proofs.YtageielcdebjlaaGreatDoor
open Go.RowKit

set_option maxHeartbeats 8000000 in
set_option maxRecDepth 100000 in
theorem valid47 (n : ByteArray) (v : Int) (es : List Ev) (ao : Option Addr) (c : Nat) (B : Nat) (w : World) (hB : B ≤ w.heap.size) (hE : Evs B w ao es) (hn : es.length ≤ 4611686018427387903) :
    Calls Tryz.prog 47 #[.agg #[.string n, .int .i64 v, .slice ao es.length c]] w fun e w' => e = .returned (.int .i64 (feedV n v es)) ∧ Below w.heap.size w w' := by
  have HE := Lib.hid hE; clear hE; by_cases hc : Tt.code n.data.toList = false
  · have HR := Lib.hid (show feedV n v es = 10 by unfold feedV; rw [if_pos hc])
    have HC := Lib.hid hc; clear hc; go_enter Tryz.func47, Tryz.ntmps47
    go_wp2_with (go_at_call 97; refine (code97 _ _).mono ?_; rintro e w' ⟨rfl, rfl⟩; rw [HC.out])
    go_ret; exact ⟨ret_int HR.out.symm, below_box _ _⟩
  · by_cases h1 : v < 0 ∨ 64 < v
    · have HR := Lib.hid (show feedV n v es = 3 by unfold feedV; rw [if_neg hc, if_pos h1])
      have HC := Lib.hid (show Tt.code n.data.toList = true by simpa using hc)
      clear hc; rcases h1 with h1 | h1
      · go_enter Tryz.func47, Tryz.ntmps47
        go_wp2_with (go_at_call 97; refine (code97 _ _).mono ?_; rintro e w' ⟨rfl, rfl⟩; rw [HC.out])
        go_ret; exact ⟨ret_int HR.out.symm, below_box _ _⟩
      · have v1 : ¬ v < 0 := by omega
        go_enter Tryz.func47, Tryz.ntmps47
        go_wp2_with (go_at_call 97; refine (code97 _ _).mono ?_; rintro e w' ⟨rfl, rfl⟩; rw [HC.out])
        go_ret; exact ⟨ret_int HR.out.symm, below_box _ _⟩
    · by_cases h2 : 256 < (es.length : Int)
      · have HR := Lib.hid (show feedV n v es = 2 by unfold feedV; rw [if_neg hc, if_neg h1, if_pos h2])
        have HC := Lib.hid (show Tt.code n.data.toList = true by simpa using hc)
        have v1 : ¬ v < 0 := by omega
        have v2 : ¬ 64 < v := by omega
        clear hc h1; go_enter Tryz.func47, Tryz.ntmps47
        go_wp2_with (go_at_call 97; refine (code97 _ _).mono ?_; rintro e w' ⟨rfl, rfl⟩; rw [HC.out])
        go_ret; exact ⟨ret_int HR.out.symm, below_box _ _⟩
      · have v1 : ¬ v < 0 := by omega
        have v2 : ¬ 64 < v := by omega
        have HC := Lib.hid (show Tt.code n.data.toList = true by simpa using hc)
        have HV := Lib.hid (show feedV n v es = evsF v es 0 by unfold feedV; rw [if_neg hc, if_neg h1, if_neg h2]; rfl)
        have F0 : FeedB w.heap.size n v (.slice ao es.length c) (w.alloc (.cells #[.string n, .int .i64 v, .slice ao es.length c] 26)) := heap_alloc_new w _
        have HF0 := Lib.hid F0; clear hc h1 F0; go_enter Tryz.func47, Tryz.ntmps47
        go_wp2_with (go_at_call 97; refine (code97 _ _).mono ?_; rintro e w' ⟨rfl, rfl⟩; rw [HC.out])
        go_loopw [3] (fun iv wr => ∃ k : Nat, iv = .int .i64 k ∧ k ≤ es.length ∧ Below w.heap.size w wr ∧ Hid (FeedB w.heap.size n v (.slice ao es.length c) wr) ∧ Hid (evsF v es 0 = evsF v es k)) (fun iv _ => es.length - (intOf iv).toNat)
        case atStart => exact ⟨0, rfl, Nat.zero_le _, below_box _ _, HF0.out, rfl⟩
        case round =>
          obtain ⟨k, rfl, hk, hbe, HF, HK⟩ := hrel; have f0 := HF.out.c0; have f1 := HF.out.c1; have f2 := HF.out.c2; have hsz := HF.out.lt; by_cases hlt : k < es.length
          · obtain ⟨e, he⟩ : ∃ e, es[k]? = some e := ⟨_, List.getElem?_eq_getElem hlt⟩
            obtain ⟨b, o, ha, hb, hev⟩ := HE.out.form (by omega)
            subst ha; obtain ⟨hE1, x, x', hC, hX, hX'⟩ := hev k e he
            have HCW := hC.below (w' := wr) hb (hbe.mono hB)
            obtain ⟨c0, c1, c2, c3, c4, c5, c6, c7, c8, c9, c10, c11, c12⟩ := HCW; obtain ⟨ax, cx, hx, hI⟩ := hX; obtain ⟨ay, cy, hy, hI'⟩ := hX'; subst hx hy
            have HEV := Lib.hid hev; have hki : (k : Int) < (es.length : Int) := by omega
            clear hev; have HC0 := Lib.hid hC; have HSTEP := Lib.hid (evsF_cons v es k e he)
            clear he; go_wp2_with fail
            refine (right98 e.uid wr hE1.uid).mono ?_
            rintro z w1 ⟨rfl, hb1⟩; have hbe1 := below_then hbe hb1; have HF1 := Lib.hid (HF.out.block (hb1.block _ hsz))
            have hsz1 := HF1.out.lt; clear hb1 HF c0 c1 c2 c3 c4 c5 c6 c7 c8 c9 c10 c11 c12 f0 f1 f2; have HC1 := HC0.out.below (w' := w1) hb (hbe1.mono hB)
            obtain ⟨c0, c1, c2, c3, c4, c5, c6, c7, c8, c9, c10, c11, c12⟩ := HC1; have f0 := HF1.out.c0; have f1 := HF1.out.c1; have f2 := HF1.out.c2; cases hr : rightB e.uid.data.toList
            · have HR := Lib.hid (show feedV n v es = 4 from HV.out.trans (HK.out.trans (HSTEP.out.trans (if_pos hr))))
              clear hr; go_wp2_with fail
              go_ret; exact ⟨ret_int HR.out.symm, hbe1⟩
            · have HST2 := Lib.hid (HSTEP.out.trans (if_neg (by rw [hr]; simp)))
              clear hr; cases k with
              | zero =>
                go_wp2_with fail
                go_quiet (fail)
                obtain ⟨w2, hw2, hB2, hC2, hH2⟩ := redrew w1 nq
                have hbe2 := hbe1.trans (hB2 _)
                have HC2 := Lib.hid (HC0.out.below (w' := w2) hb (hbe2.mono hB))
                rw [Nat.zero_mul, Nat.add_zero] at HC2
                have HF2 := Lib.hid (HF1.out.block (hH2 _))
                have hsz2 := HF2.out.lt; rw [← hw2]; clear hw2 hB2 hC2 hH2 c0 c1 c2 c3 c4 c5 c6 c7 c8 c9 c10 c11 c12 f0 f1 f2 HF1 hbe1 hsz1; obtain ⟨c0, c1, c2, c3, c4, c5, c6, c7, c8, c9, c10, c11, c12⟩ := HC2.out
                have f0 := HF2.out.c0; have f1 := HF2.out.c1; have f2 := HF2.out.c2; have HST3 := Lib.hid (HST2.out.trans (if_neg (by show ¬ (false = true); simp)))
                go_wp2_with fail
                go_still_tail 7, (by kernel_rfl)
                change wpList _ _ _ _ _ w2.drew
                go_wp2_with fail
                refine (fault99 e v B _ ax ay cx cy (Nat.le_trans hB (below_drw hbe2).size) (hI.below ((below_drw hbe2).mono hB)) (hI'.below ((below_drw hbe2).mono hB)) hE1.ex hE1.xt hE1.summ hE1.loc).mono ?_
                rintro z w3 ⟨rfl, hb3⟩; have hbe3 := below_then (below_drw hbe2) hb3
                have HF3 := Lib.hid (HF2.out.block (hb3.block _ hsz2))
                by_cases hcv : checkV e v = 0
                · have HR := Lib.hid (show evsF v es 0 = evsF v es (0 + 1) from HST3.out.trans (if_neg (by simp [hcv])))
                  rw [hcv]
                  clear hcv; go_wp2_with fail
                  go_roundw
                  case rel => exact ⟨0 + 1, by go_num, by omega, hbe3, HF3.out, HR.out⟩
                  case measure => simp [intOf]; omega
                · have HR := Lib.hid (show feedV n v es = checkV e v from HV.out.trans (HST3.out.trans (if_pos hcv)))
                  have hcv2 : (checkV e v != 0) = true := by simp [hcv]
                  clear hcv; go_wp2_with fail
                  go_ret; exact ⟨ret_int HR.out.symm, hbe3⟩
              | succ j =>
                obtain ⟨p, hp⟩ : ∃ p, es[j]? = some p := ⟨_, List.getElem?_eq_getElem (by omega)⟩
                obtain ⟨_, y, y', hCp, _, _⟩ := HEV.out j p hp
                have p0 := (hCp.below (w' := w1) hb (hbe1.mono hB)).c0
                clear hCp; go_wp2_with fail
                go_quiet (fail)
                obtain ⟨w2, hw2, hB2, hC2, hH2⟩ := redrew w1 nq
                have hbe2 := hbe1.trans (hB2 _)
                have HC2 := Lib.hid (HC0.out.below (w' := w2) hb (hbe2.mono hB))
                have HF2 := Lib.hid (HF1.out.block (hH2 _))
                have hsz2 := HF2.out.lt; rw [← hw2]; clear hw2 hB2 hC2 hH2 c0 c1 c2 c3 c4 c5 c6 c7 c8 c9 c10 c11 c12 f0 f1 f2 HF1 hbe1 hsz1 p0; obtain ⟨c0, c1, c2, c3, c4, c5, c6, c7, c8, c9, c10, c11, c12⟩ := HC2.out
                have f0 := HF2.out.c0; have f1 := HF2.out.c1; have f2 := HF2.out.c2; have hprev := Lib.hid (prevU_succ es j p hp)
                cases hlt2 : (Op.bytesLess e.uid.toList p.uid.toList || e.uid.toList == p.uid.toList)
                case true =>
                  have HR := Lib.hid (show feedV n v es = 63 from HV.out.trans (HK.out.trans (HST2.out.trans (if_pos (by rw [hprev.out]; exact hlt2)))))
                  clear hlt2 hp; go_wp2_with fail
                  go_ret; exact ⟨ret_int HR.out.symm, hbe2⟩
                have HST3 := Lib.hid (HST2.out.trans (if_neg (by rw [hprev.out]; show ¬ (_ = true); rw [show lateU (some p.uid) e.uid = false from hlt2]; simp)))
                clear hlt2 hp; go_wp2_with fail
                have hj0 : (0 : Int) ≤ (j : Int) + 1 := by omega
                have hjn : ((j : Int) + 1).toNat = j + 1 := by omega
                have hjl : (j : Int) + 1 < (es.length : Int) := by omega
                go_still_tail 7, (by kernel_rfl)
                clear hj0 hjn hjl; change wpList _ _ _ _ _ w2.drew
                go_wp2_with fail
                refine (fault99 e v B _ ax ay cx cy (Nat.le_trans hB (below_drw hbe2).size) (hI.below ((below_drw hbe2).mono hB)) (hI'.below ((below_drw hbe2).mono hB)) hE1.ex hE1.xt hE1.summ hE1.loc).mono ?_
                rintro z w3 ⟨rfl, hb3⟩; have hbe3 := below_then (below_drw hbe2) hb3
                have HF3 := Lib.hid (HF2.out.block (hb3.block _ hsz2))
                by_cases hcv : checkV e v = 0
                · have HR := Lib.hid (show evsF v es 0 = evsF v es ((j + 1) + 1) from HK.out.trans (HST3.out.trans (if_neg (by simp [hcv]))))
                  rw [hcv]
                  clear hcv; go_wp2_with fail
                  go_roundw
                  case rel => exact ⟨(j + 1) + 1, by go_num, by omega, hbe3, HF3.out, HR.out⟩
                  case measure => simp [intOf]; omega
                · have HR := Lib.hid (show feedV n v es = checkV e v from HV.out.trans (HK.out.trans (HST3.out.trans (if_pos hcv))))
                  have hcv2 : (checkV e v != 0) = true := by simp [hcv]
                  clear hcv; go_wp2_with fail
                  go_ret; exact ⟨ret_int HR.out.symm, hbe3⟩
          · have hki : ¬ (k : Int) < (es.length : Int) := by omega
            have HR := Lib.hid (show feedV n v es = 0 from HV.out.trans (HK.out.trans (evsF_end v es k (by omega))))
            go_wp2_with fail
            go_ret; exact ⟨ret_int HR.out.symm, hbe⟩
end Go.Proofs.YtageielcdebjlaaGreatDoor
