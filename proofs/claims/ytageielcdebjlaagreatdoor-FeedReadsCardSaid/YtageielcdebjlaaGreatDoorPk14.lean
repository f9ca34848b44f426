/- Regions that only make blocks; an event's block filled anew. No function of the program in sight. Condition: none. timetableref39.Same: its contract: are two series the same? timetableref40.SameEvent: its contract. timetableref40.SameEvents: its contract. timetableref40.Valid: its contract. Stretches of events in memory: their cells and what they refer to. No function of the program in sight. Condition: none. Plain facts on the reference's Put: an event laid into a list in the order of the identifiers. No program in sight. Condition: none. Plain facts on the order of identifiers, and on valid lists of events. No program in sight. Condition: none. subscriber.find with slices.BinarySearchFunc: its contract. Plain facts on merging: the place of a search is the place of Put; the fold over a feed's events; the merged list stays valid. No program in sight. Condition: none. The lines of a feed, and feed.written for every valid feed. feed.Format for every feed: its contract. A text cut at commas; the numbers in a stamp. -/
import Derived.Test.YtageielcdebjlaaGreatDoorPk13
import Derived.Test.YtageielcdebjlaaGreatDoorPk11
import Derived.StillTailTactics
import Derived.Sort.Walk0
import Derived.Test.YtageielcdebjlaaGreatDoorPk10
import Derived.Test.YtageielcdebjlaaGreatDoorParseAll
set_option maxRecDepth 100000
set_option maxHeartbeats 40000000
namespace Go.Proofs.YtageielcdebjlaaGreatDoor
open Go.RowKit
structure Made (w w' : World) : Prop where
 below : Below w.heap.size w w'
theorem Made.start (w : World) : Made w w.drew := ⟨below_drw (Below.refl _ w)⟩
theorem Made.then {w w1 w2 : World} (h : Made w w1) (k : Below w1.heap.size w1 w2) : Made w w2 := ⟨below_then h.below k⟩
theorem Made.alloc {w w1 : World} (h : Made w w1) (o : Obj) : Made w (w1.alloc o) := h.then (below_box _ _)
theorem Made.blk {w w1 : World} (h : Made w w1) {g : Nat} {cs : Array Value} {ty : TypeId} (k : Blk g cs ty w) : Blk g cs ty w1 := k.below h.below k.lt
theorem row_made {w w' : World} {B k : Nat} {e : TypeId} {v : Value} {n : Nat} {xs : List Value} (h : w.ownsRow B e k v n xs) (hb : Below w.heap.size w w') : w'.ownsRow B e k v n xs := by
 refine ⟨h.1, ?_⟩; rcases h.2 with h1 | ⟨g, cap, cur, r1, r2, r3, r4⟩
 ·exact .inl h1
 ·exact .inr ⟨g, cap, cur, r1, r2, (hb.block g (Array.getElem?_eq_some_iff.1 r3).1).trans r3, r4⟩
theorem Kept.made {B : Nat} {w w' : World} (h : Below w.heap.size w w') : Kept B w w' := fun _ _ _ _ hk => hk.below h hk.lt
theorem list_parts {xs ys : List Int} {n : Nat} (hx : xs.length = n) (hy : ys.length = n) (h : ∀ j, j < n -> xs[j]? = ys[j]?) : xs = ys := by
 apply List.ext_getElem?
 intro j; rcases Nat.lt_or_ge j n with hj | hj
 ·exact h j hj
 ·rw [List.getElem?_eq_none (by omega), List.getElem?_eq_none (by omega)]
theorem sameser142 (s t : Tt.Ser) (B : Nat) (w : World) (p1 p2 p3 p4 : Option Addr) (c1 c2 c3 c4 : Nat) (hB : B <= w.heap.size) (hI1 : Ints B w p1 s.ex) (hI2 : Ints B w p2 s.xt) (hI3 : Ints B w p3 t.ex) (hI4 : Ints B w p4 t.xt) (hn1 : s.ex.length <= 4611686018427387903) (hn2 : s.xt.length <= 4611686018427387903) :
  Calls Tryz.prog 142 #[serVal s (.slice p1 s.ex.length c1) (.slice p2 s.xt.length c2), serVal t (.slice p3 t.ex.length c3) (.slice p4 t.xt.length c4)] w fun e w' => e = .returned (.bool (decide (s = t))) /\ Below w.heap.size w w' := by
 obtain ⟨f, l, e, m, ex, xt⟩ := s; obtain ⟨f', l', e', m', ex', xt'⟩ := t; simp only at *; have HI1 := Lh hI1; have HI2 := Lh hI2; have HI3 := Lh hI3; have HI4 := Lh hI4; clear hI1 hI2 hI3 hI4; unfold serVal; by_cases hq : f = f' /\ l = l' /\ e = e' /\ m = m' /\ ex.length = ex'.length /\ xt.length = xt'.length
 ·obtain ⟨rfl, rfl, rfl, rfl, hl1, hl2⟩ := hq; rw [<- hl1, <- hl2]; obtain ⟨n, hn⟩ : ∃ n, n = ex.length := ⟨_, rfl⟩
  obtain ⟨o, ho⟩ : ∃ o, o = xt.length := ⟨_, rfl⟩
  rw [<- hn] at hn1 hl1 ⊢; rw [<- ho] at hn2 hl2 ⊢; have HN := Lh hn; have HO := Lh ho; have HL1 := Lh hl1; have HL2 := Lh hl2; clear hn ho hl1 hl2; have S0 : SerAt w.heap.size ⟨f, l, e, m, ex, xt⟩ (.slice p1 n c1) (.slice p2 o c2) (w.alloc (.cells #[.int .i64 f, .int .i64 l, .int .i64 e, .int .i64 m, .slice p1 n c1, .slice p2 o c2] 80)) := heap_alloc_new w _; have T0 : SerAt (w.heap.size + 1) ⟨f, l, e, m, ex', xt'⟩ (.slice p3 n c3) (.slice p4 o c4) ((w.alloc (.cells #[.int .i64 f, .int .i64 l, .int .i64 e, .int .i64 m, .slice p1 n c1, .slice p2 o c2] 80)).alloc (.cells #[.int .i64 f, .int .i64 l, .int .i64 e, .int .i64 m, .slice p3 n c3, .slice p4 o c4] 80)) := by
   have := heap_alloc_new (w.alloc (.cells #[.int .i64 f, .int .i64 l, .int .i64 e, .int .i64 m, .slice p1 n c1, .slice p2 o c2] 80)) (.cells #[.int .i64 f, .int .i64 l, .int .i64 e, .int .i64 m, .slice p3 n c3, .slice p4 o c4] 80); simpa [SerAt] using this
  have HB := Lh ((below_box w (.cells #[.int .i64 f, .int .i64 l, .int .i64 e, .int .i64 m, .slice p1 n c1, .slice p2 o c2] 80)).alloc (by simp) (.cells #[.int .i64 f, .int .i64 l, .int .i64 e, .int .i64 m, .slice p3 n c3, .slice p4 o c4] 80)); have HS := Lh (S0.block (w' := (w.alloc (.cells #[.int .i64 f, .int .i64 l, .int .i64 e, .int .i64 m, .slice p1 n c1, .slice p2 o c2] 80)).alloc (.cells #[.int .i64 f, .int .i64 l, .int .i64 e, .int .i64 m, .slice p3 n c3, .slice p4 o c4] 80)) ((below_box _ _).block _ (by simp))); have HT := Lh T0; clear S0 T0; go_enter Tryz.func142, Tryz.ntmps142; go_wp2_with fail; go_loopw [5] (fun iv wr => ∃ k : Nat, iv = .int .i64 k /\ k <= n /\ Hid (Below w.heap.size w wr) /\ Hid (SerAt w.heap.size ⟨f, l, e, m, ex, xt⟩ (.slice p1 n c1) (.slice p2 o c2) wr) /\ Hid (SerAt (w.heap.size + 1) ⟨f, l, e, m, ex', xt'⟩ (.slice p3 n c3) (.slice p4 o c4) wr) /\ Hid (∀ j, j < k -> ex[j]? = ex'[j]?)) (fun iv _ => n - (intOf iv).toNat)
  case atStart => exact ⟨0, rfl, Nat.zero_le _, HB, HS, HT, Lh (fun j h => absurd h (Nat.not_lt_zero _))⟩
  case round =>
   obtain ⟨k, rfl, hk, HBr, HA, HA2, HE⟩ := hrel; obtain ⟨-, -, -, -, e4, e5⟩ := HA.out.cells; obtain ⟨-, -, -, -, f4, f5⟩ := HA2.out.cells; by_cases hlt : k < n
   ·have hx : k < ex.length := by rw [<- HN.out]; exact hlt
    have hy : k < ex'.length := by rw [<- HL1.out]; exact hlt
    obtain ⟨a, rfl, ha, hca⟩ := HI1.out k _ (List.getElem?_eq_getElem hx); obtain ⟨a', rfl, ha', hcb⟩ := HI3.out k _ (List.getElem?_eq_getElem hy); obtain ⟨x, hxe⟩ : ∃ x, x = ex[k] := ⟨_, rfl⟩
    obtain ⟨y, hye⟩ : ∃ y, y = ex'[k] := ⟨_, rfl⟩
    rw [<- hxe] at hca; rw [<- hye] at hcb; have HXE := Lh hxe; have HYE := Lh hye; clear hxe hye; have hca := (HBr.out.cell (p := a.add k) (by rw [addr_add_block]; omega)).trans hca; have hcb := (HBr.out.cell (p := a'.add k) (by rw [addr_add_block]; omega)).trans hcb; have hlt2 : (k : Int) < n := by omega
    by_cases he : x = y
    ·have hb : (x != y) = false := by simp [he]
     have HS2 := Lh (show ∀ j, j < k + 1 -> ex[j]? = ex'[j]? from by
      intro j hj; rcases Nat.lt_or_ge j k with h | h
      ·exact HE.out j h
      ·obtain rfl : j = k := by omega
       rw [List.getElem?_eq_getElem hx, List.getElem?_eq_getElem hy, <- HXE.out, <- HYE.out, he])
     clear he; go_wp2_with fail; go_quiet (fail)
     go_wp2_with fail; go_roundw
     case rel => exact ⟨k + 1, by go_num, by omega, Lh (below_drew HBr.out), Lh (HA.out.block (by simp)), Lh (HA2.out.block (by simp)), HS2⟩
     case measure => simp [intOf]; omega
    ·have hb : (x != y) = true := by simp [he]
     have HD := Lh (show decide ((⟨f, l, e, m, ex, xt⟩ : Tt.Ser) = ⟨f, l, e, m, ex', xt'⟩) = false from by
      rw [decide_eq_false_iff_not]; intro h; injection h with a1 a2 a3 a4 a5 a6
      exact he (by rw [HXE.out, HYE.out]; simp [a5]))
     clear he; go_wp2_with fail; go_quiet (fail)
     go_wp2_with fail; go_ret; exact ⟨ret_bool HD.out.symm, below_drew HBr.out⟩
   ·have hlt2 : ¬ (k : Int) < n := by omega
    have HX := Lh (show ex = ex' from list_parts HN.out.symm HL1.out.symm (fun j hj => HE.out j (by omega))); clear HE hk hlt; go_wp2_with fail; go_loopw [6] (fun iv wq => ∃ k : Nat, iv = .int .i64 k /\ k <= o /\ Hid (Below w.heap.size w wq) /\ Hid (SerAt w.heap.size ⟨f, l, e, m, ex, xt⟩ (.slice p1 n c1) (.slice p2 o c2) wq) /\ Hid (SerAt (w.heap.size + 1) ⟨f, l, e, m, ex', xt'⟩ (.slice p3 n c3) (.slice p4 o c4) wq) /\ Hid (∀ j, j < k -> xt[j]? = xt'[j]?)) (fun iv _ => o - (intOf iv).toNat)
    case atStart => exact ⟨0, rfl, Nat.zero_le _, HBr, HA, HA2, Lh (fun j h => absurd h (Nat.not_lt_zero _))⟩
    case round =>
     clear e4 e5 f4 f5; obtain ⟨k, rfl, hk, HBr, HA, HA2, HE⟩ := hrel; obtain ⟨-, -, -, -, e4, e5⟩ := HA.out.cells; obtain ⟨-, -, -, -, f4, f5⟩ := HA2.out.cells; by_cases hlt : k < o
     ·have hx : k < xt.length := by rw [<- HO.out]; exact hlt
      have hy : k < xt'.length := by rw [<- HL2.out]; exact hlt
      obtain ⟨a, rfl, ha, hca⟩ := HI2.out k _ (List.getElem?_eq_getElem hx); obtain ⟨a', rfl, ha', hcb⟩ := HI4.out k _ (List.getElem?_eq_getElem hy); obtain ⟨x, hxe⟩ : ∃ x, x = xt[k] := ⟨_, rfl⟩
      obtain ⟨y, hye⟩ : ∃ y, y = xt'[k] := ⟨_, rfl⟩
      rw [<- hxe] at hca; rw [<- hye] at hcb; have HXE := Lh hxe; have HYE := Lh hye; clear hxe hye; have hca := (HBr.out.cell (p := a.add k) (by rw [addr_add_block]; omega)).trans hca; have hcb := (HBr.out.cell (p := a'.add k) (by rw [addr_add_block]; omega)).trans hcb; have hlt2 : (k : Int) < o := by omega
      by_cases he : x = y
      ·have hb : (x != y) = false := by simp [he]
       have HS2 := Lh (show ∀ j, j < k + 1 -> xt[j]? = xt'[j]? from by
        intro j hj; rcases Nat.lt_or_ge j k with h | h
        ·exact HE.out j h
        ·obtain rfl : j = k := by omega
         rw [List.getElem?_eq_getElem hx, List.getElem?_eq_getElem hy, <- HXE.out, <- HYE.out, he])
       clear he; go_wp2_with fail; go_quiet (fail)
       go_wp2_with fail; go_roundw
       case rel => exact ⟨k + 1, by go_num, by omega, Lh (below_drew HBr.out), Lh (HA.out.block (by simp)), Lh (HA2.out.block (by simp)), HS2⟩
       case measure => simp [intOf]; omega
      ·have hb : (x != y) = true := by simp [he]
       have HD := Lh (show decide ((⟨f, l, e, m, ex, xt⟩ : Tt.Ser) = ⟨f, l, e, m, ex', xt'⟩) = false from by
        rw [decide_eq_false_iff_not]; intro h; injection h with a1 a2 a3 a4 a5 a6
        exact he (by rw [HXE.out, HYE.out]; simp [a6]))
       clear he; go_wp2_with fail; go_quiet (fail)
       go_wp2_with fail; go_ret; exact ⟨ret_bool HD.out.symm, below_drew HBr.out⟩
     ·have hlt2 : ¬ (k : Int) < o := by omega
      have HY := Lh (show xt = xt' from list_parts HO.out.symm HL2.out.symm (fun j hj => HE.out j (by omega))); have HD := Lh (show decide ((⟨f, l, e, m, ex, xt⟩ : Tt.Ser) = ⟨f, l, e, m, ex', xt'⟩) = true from by rw [HX.out, HY.out]; simp); go_wp2_with fail; go_ret; exact ⟨ret_bool (by simpa using HD.out.symm), HBr.out⟩
 ·have HD := Lh (show decide ((⟨f, l, e, m, ex, xt⟩ : Tt.Ser) = ⟨f', l', e', m', ex', xt'⟩) = false from by
   rw [decide_eq_false_iff_not]; intro h; injection h with a1 a2 a3 a4 a5 a6
   exact hq ⟨a1, a2, a3, a4, by rw [a5], by rw [a6]⟩)
  go_enter Tryz.func142, Tryz.ntmps142; go_wp2_with fail
  all_goals
   go_ret; exact ⟨ret_bool HD.out.symm, (below_box _ _).trans ((below_box _ _).mono (by simp))⟩
deriving instance DecidableEq for Ev
theorem text_ne {x y : ByteArray} (he : ¬ x = y) : (x.toList == y.toList) = false := by
 rw [beq_eq_false_iff_ne]; intro h; rw [Lib.toList_data, Lib.toList_data] at h; exact he (ByteArray.ext (Array.toList_inj.mp h))
theorem ev_ne {a b : Ev} (h : ¬ a = b) : decide (a = b) = false := by simpa using h
theorem sameev71 (a b : Ev) (B : Nat) (w : World) (p1 p2 p3 p4 : Option Addr) (c1 c2 c3 c4 : Nat) (hB : B <= w.heap.size) (hI1 : Ints B w p1 a.days.ex) (hI2 : Ints B w p2 a.days.xt) (hI3 : Ints B w p3 b.days.ex) (hI4 : Ints B w p4 b.days.xt) (hn1 : a.days.ex.length <= 4611686018427387903) (hn2 : a.days.xt.length <= 4611686018427387903) :
  Calls Tryz.prog 71 #[evVal a (.slice p1 a.days.ex.length c1) (.slice p2 a.days.xt.length c2), evVal b (.slice p3 b.days.ex.length c3) (.slice p4 b.days.xt.length c4)] w fun e w' => e = .returned (.bool (decide (a = b))) /\ Below w.heap.size w w' := by
 have hbx := (below_box w (.cells (evCells a (.slice p1 a.days.ex.length c1) (.slice p2 a.days.xt.length c2)) 82)).alloc (by simp) (.cells (evCells b (.slice p3 b.days.ex.length c3) (.slice p4 b.days.xt.length c4)) 82); have S0 : EvBox w.heap.size a (.slice p1 a.days.ex.length c1) (.slice p2 a.days.xt.length c2) (w.alloc (.cells (evCells a (.slice p1 a.days.ex.length c1) (.slice p2 a.days.xt.length c2)) 82)) := heap_alloc_new w _; have T0 : EvBox (w.heap.size + 1) b (.slice p3 b.days.ex.length c3) (.slice p4 b.days.xt.length c4) ((w.alloc (.cells (evCells a (.slice p1 a.days.ex.length c1) (.slice p2 a.days.xt.length c2)) 82)).alloc (.cells (evCells b (.slice p3 b.days.ex.length c3) (.slice p4 b.days.xt.length c4)) 82)) := by
  have := heap_alloc_new (w.alloc (.cells (evCells a (.slice p1 a.days.ex.length c1) (.slice p2 a.days.xt.length c2)) 82)) (.cells (evCells b (.slice p3 b.days.ex.length c3) (.slice p4 b.days.xt.length c4)) 82); simpa [EvBox] using this
 have HS := Lh (S0.block (w' := (w.alloc (.cells (evCells a (.slice p1 a.days.ex.length c1) (.slice p2 a.days.xt.length c2)) 82)).alloc (.cells (evCells b (.slice p3 b.days.ex.length c3) (.slice p4 b.days.xt.length c4)) 82)) ((below_box _ _).block _ (by simp))); have HT := Lh T0; have HB := Lh hbx; have HI1 := Lh (hI1.below (hbx.mono hB)); have HI2 := Lh (hI2.below (hbx.mono hB)); have HI3 := Lh (hI3.below (hbx.mono hB)); have HI4 := Lh (hI4.below (hbx.mono hB)); clear hI1 hI2 hI3 hI4 S0 T0 hbx; obtain ⟨u, s, oc, d, st, mi, su, lo⟩ := a; obtain ⟨u', s', nc, d', st', mi', su', lo'⟩ := b; unfold evCells at *; unfold evVal evCells; simp only at *; by_cases h1 : u = u'
 ·subst h1; by_cases h2 : s = s'
  ·subst h2; by_cases h3 : oc = nc
   ·subst h3; have hcc : (oc == oc) = true := by simp
    go_enter Tryz.func71, Tryz.ntmps71; go_wp2_with fail; refine (sameser142 d d' B _ p1 p2 p3 p4 c1 c2 c3 c4 (by simp; omega) HI1.out HI2.out HI3.out HI4.out hn1 hn2).mono ?_; rintro e w1 ⟨rfl, hb1⟩; have HA1 := Lh (HS.out.block (hb1.block _ (by simp; omega))); have HA2 := Lh (HT.out.block (hb1.block _ (by simp))); have HB1 := Lh (HB.out.trans (hb1.mono (by simp; omega))); clear hb1; obtain ⟨-, -, -, -, -, -, -, -, -, c9, c10, c11, c12⟩ := HA1.out.c; obtain ⟨-, -, -, -, -, -, -, -, -, d9, d10, d11, d12⟩ := HA2.out.c; by_cases h4 : d = d'
    ·subst h4; have HD4 := Lh (show decide (d = d) = true from by simp); rw [HD4.out]; by_cases h5 : st = st'
     ·subst h5; by_cases h6 : mi = mi'
      ·subst h6; by_cases h7 : su = su'
       ·subst h7; by_cases h8 : lo = lo'
        ·subst h8; have HD := Lh (show decide ((⟨u, s, oc, d, st, mi, su, lo⟩ : Ev) = ⟨u, s, oc, d, st, mi, su, lo⟩) = true from by simp); go_wp2_with fail; go_ret; exact ⟨ret_bool (by simp), HB1.out⟩
        ·have HD := Lh (ev_ne (a := ⟨u, s, oc, d, st, mi, su, lo⟩) (b := ⟨u, s, oc, d, st, mi, su, lo'⟩) (fun h => by injection h; exact h8 (by assumption))); have hb := text_ne h8; clear h8; go_wp2_with fail; go_ret; exact ⟨ret_bool HD.out.symm, HB1.out⟩
       ·have HD := Lh (ev_ne (a := ⟨u, s, oc, d, st, mi, su, lo⟩) (b := ⟨u, s, oc, d, st, mi, su', lo'⟩) (fun h => by injection h; exact h7 (by assumption))); have hb := text_ne h7; clear h7; go_wp2_with fail; go_ret; exact ⟨ret_bool HD.out.symm, HB1.out⟩
      ·have HD := Lh (ev_ne (a := ⟨u, s, oc, d, st, mi, su, lo⟩) (b := ⟨u, s, oc, d, st, mi', su', lo'⟩) (fun h => by injection h; exact h6 (by assumption))); have hb : (mi == mi') = false := by simpa using h6
       go_wp2_with fail; go_ret; exact ⟨ret_bool HD.out.symm, HB1.out⟩
     ·have HD := Lh (ev_ne (a := ⟨u, s, oc, d, st, mi, su, lo⟩) (b := ⟨u, s, oc, d, st', mi', su', lo'⟩) (fun h => by injection h; exact h5 (by assumption))); have hb : (st == st') = false := by simpa using h5
      go_wp2_with fail; go_ret; exact ⟨ret_bool HD.out.symm, HB1.out⟩
    ·have HD := Lh (ev_ne (a := ⟨u, s, oc, d, st, mi, su, lo⟩) (b := ⟨u, s, oc, d', st', mi', su', lo'⟩) (fun h => by injection h; exact h4 (by assumption))); have HD4 := Lh (show decide (d = d') = false from by simpa using h4); rw [HD4.out]; clear h4; go_wp2_with fail; go_ret; exact ⟨ret_bool HD.out.symm, HB1.out⟩
   ·have HD := Lh (ev_ne (a := ⟨u, s, oc, d, st, mi, su, lo⟩) (b := ⟨u, s, nc, d', st', mi', su', lo'⟩) (fun h => by injection h; exact h3 (by assumption))); have hb : (oc == nc) = false := by simpa using h3
    go_enter Tryz.func71, Tryz.ntmps71; go_wp2_with fail; go_ret; exact ⟨ret_bool HD.out.symm, HB.out⟩
  ·have HD := Lh (ev_ne (a := ⟨u, s, oc, d, st, mi, su, lo⟩) (b := ⟨u, s', nc, d', st', mi', su', lo'⟩) (fun h => by injection h; exact h2 (by assumption))); have hb : (s == s') = false := by simpa using h2
   go_enter Tryz.func71, Tryz.ntmps71; go_wp2_with fail; go_ret; exact ⟨ret_bool HD.out.symm, HB.out⟩
 ·have HD := Lh (ev_ne (a := ⟨u, s, oc, d, st, mi, su, lo⟩) (b := ⟨u', s', nc, d', st', mi', su', lo'⟩) (fun h => by injection h; exact h1 (by assumption))); have hb := text_ne h1; clear h1; go_enter Tryz.func71, Tryz.ntmps71; go_wp2_with fail; go_ret; exact ⟨ret_bool HD.out.symm, HB.out⟩
theorem list_parts2 {α : Type} {xs ys : List α} {n : Nat} (hx : xs.length = n) (hy : ys.length = n) (h : ∀ j, j < n -> xs[j]? = ys[j]?) : xs = ys := by
 apply List.ext_getElem?
 intro j; rcases Nat.lt_or_ge j n with hj | hj
 ·exact h j hj
 ·rw [List.getElem?_eq_none (by omega), List.getElem?_eq_none (by omega)]
theorem sameevs65 (xs ys : List Ev) (ao bo : Option Addr) (c d : Nat) (B : Nat) (w : World) (hB : B <= w.heap.size) (hX : Evs B w ao xs) (hY : Evs B w bo ys) (hn : xs.length <= 4611686018427387903) :
  Calls Tryz.prog 65 #[.slice ao xs.length c, .slice bo ys.length d] w fun e w' => e = .returned (.bool (decide (xs = ys))) /\ Below w.heap.size w w' := by
 by_cases hl : xs.length = ys.length
 ·have HX := Lh hX; have HY := Lh hY; clear hX hY; obtain ⟨n, hn1⟩ : ∃ n, n = xs.length := ⟨_, rfl⟩
  rw [<- hl]; rw [<- hn1] at hn hl ⊢; have HN := Lh hn1; have HL := Lh hl; clear hn1 hl; go_enter Tryz.func65, Tryz.ntmps65; go_wp2_with fail; go_loopw [5] (fun iv wr => ∃ k : Nat, k <= n /\ iv = .int .i64 k /\ Hid (Below w.heap.size w wr) /\ Hid (∀ j, j < k -> xs[j]? = ys[j]?)) (fun iv _ => n - (intOf iv).toNat)
  case atStart => exact ⟨0, Nat.zero_le _, rfl, Lh (Below.refl _ _), Lh (fun j h => absurd h (Nat.not_lt_zero _))⟩
  case round =>
   obtain ⟨k, hk, rfl, HBr, HE⟩ := hrel; by_cases hlt : k < n
   ·have hx : k < xs.length := by rw [<- HN.out]; exact hlt
    have hy : k < ys.length := by rw [<- HL.out]; exact hlt
    have hlti : (k : Int) < n := by omega
    rcases HX.out with h | ⟨g, o, rfl, hg, hcx⟩
    ·rw [h] at hx; simp at hx
    rcases HY.out with h | ⟨g', o', rfl, hg', hcy⟩
    ·rw [h] at hy; simp at hy
    obtain ⟨hEa, _, _, hCa, ⟨ax, cx, rfl, hI1⟩, ⟨ay, cy, rfl, hI2⟩⟩ := hcx k _ (List.getElem?_eq_getElem hx); obtain ⟨hEb, _, _, hCb, ⟨bx, dx, rfl, hI3⟩, ⟨bY, dy, rfl, hI4⟩⟩ := hcy k _ (List.getElem?_eq_getElem hy); obtain ⟨x, hxe⟩ : ∃ x, x = xs[k] := ⟨_, rfl⟩
    obtain ⟨y, hye⟩ : ∃ y, y = ys[k] := ⟨_, rfl⟩
    rw [<- hxe] at hEa hCa hI1 hI2; rw [<- hye] at hEb hCb hI3 hI4; have HXE := Lh hxe; have HYE := Lh hye; have HI1 := Lh (hI1.below (HBr.out.mono hB)); have HI2 := Lh (hI2.below (HBr.out.mono hB)); have HI3 := Lh (hI3.below (HBr.out.mono hB)); have HI4 := Lh (hI4.below (HBr.out.mono hB)); have HEa := Lh hEa; have hsz := HBr.out.size; have hCa' := hCa.below hg (HBr.out.mono hB); have hCb' := hCb.below hg' (HBr.out.mono hB); clear hxe hye hcx hcy hEa hEb hCa hCb hI1 hI2 hI3 hI4; obtain ⟨c0, c1, c2, c3, c4, c5, c6, c7, c8, c9, c10, c11, c12⟩ := hCa'; obtain ⟨d0, d1, d2, d3, d4, d5, d6, d7, d8, d9, d10, d11, d12⟩ := hCb'; go_wp2_with fail; go_still_tail 8, (by kernel_rfl)
    change wpList _ _ _ _ _ wr.drew; go_wp2_with fail; refine (sameev71 x y B _ ax ay bx bY cx cy dx dy (Nat.le_trans hB HBr.out.drew.size) HI1.out HI2.out HI3.out HI4.out HEa.out.ex HEa.out.xt).mono ?_; rintro z w1 ⟨rfl, hb1⟩; have HB1 := Lh (below_then HBr.out.drew hb1); clear hb1; by_cases he : x = y
    ·have HS2 := Lh (show ∀ j, j < k + 1 -> xs[j]? = ys[j]? from by
      intro j hj; rcases Nat.lt_or_ge j k with h | h
      ·exact HE.out j h
      ·obtain rfl : j = k := by omega
       rw [List.getElem?_eq_getElem hx, List.getElem?_eq_getElem hy, <- HXE.out, <- HYE.out, he])
     have HD := Lh (show decide (x = y) = true from by simpa using he); rw [HD.out]; clear he; go_wp2_with fail; go_roundw
     case rel => exact ⟨k + 1, by omega, by go_num, HB1, HS2⟩
     case measure => simp [intOf]; omega
    ·have HD := Lh (show decide (x = y) = false from by simpa using he); have HR := Lh (show decide (xs = ys) = false from by
      rw [decide_eq_false_iff_not]; intro e; exact he (by rw [HXE.out, HYE.out]; simp [e]))
     rw [HD.out]; clear he; go_wp2_with fail; go_ret; exact ⟨ret_bool HR.out.symm, HB1.out⟩
   ·have hlti : ¬ (k : Int) < n := by omega
    have HD := Lh (show decide (xs = ys) = true from by
     rw [decide_eq_true_iff]; exact list_parts2 HN.out.symm HL.out.symm (fun j hj => HE.out j (by omega)))
    go_wp2_with fail; go_ret; exact ⟨ret_bool HD.out.symm, HBr.out⟩
 ·have HD := Lh (show decide (xs = ys) = false from by
   rw [decide_eq_false_iff_not]; intro e; exact hl (by rw [e]))
  have hb : ((xs.length : Int) != ys.length) = true := by simp; omega
  go_enter Tryz.func65, Tryz.ntmps65; go_wp2_with fail; go_ret; exact ⟨ret_bool HD.out.symm, Below.refl _ _⟩
theorem valid47 (n : ByteArray) (v : Int) (es : List Ev) (ao : Option Addr) (c : Nat) (B : Nat) (w : World) (hB : B <= w.heap.size) (hE : Evs B w ao es) (hn : es.length <= 4611686018427387903) :
  Calls Tryz.prog 47 #[.agg #[.string n, .int .i64 v, .slice ao es.length c]] w fun e w' => e = .returned (.int .i64 (feedV n v es)) /\ Below w.heap.size w w' := by
 have HE := Lh hE; clear hE; by_cases hc : Tt.code n.data.toList = false
 ·have HR := Lh (show feedV n v es = 10 by unfold feedV; rw [if_pos hc]); have HC := Lh hc; clear hc; go_enter Tryz.func47, Tryz.ntmps47; go_wp2_with (go_at_call 97; refine (code97 _ _).mono ?_; rintro e w' ⟨rfl, rfl⟩; rw [HC.out]); go_ret; exact ⟨ret_int HR.out.symm, below_box _ _⟩
 ·by_cases h1 : v < 0 ∨ 64 < v
  ·have HR := Lh (show feedV n v es = 3 by unfold feedV; rw [if_neg hc, if_pos h1]); have HC := Lh (show Tt.code n.data.toList = true by simpa using hc); clear hc; rcases h1 with h1 | h1
   ·go_enter Tryz.func47, Tryz.ntmps47; go_wp2_with (go_at_call 97; refine (code97 _ _).mono ?_; rintro e w' ⟨rfl, rfl⟩; rw [HC.out]); go_ret; exact ⟨ret_int HR.out.symm, below_box _ _⟩
   ·have v1 : ¬ v < 0 := by omega
    go_enter Tryz.func47, Tryz.ntmps47; go_wp2_with (go_at_call 97; refine (code97 _ _).mono ?_; rintro e w' ⟨rfl, rfl⟩; rw [HC.out]); go_ret; exact ⟨ret_int HR.out.symm, below_box _ _⟩
  ·by_cases h2 : 256 < (es.length : Int)
   ·have HR := Lh (show feedV n v es = 2 by unfold feedV; rw [if_neg hc, if_neg h1, if_pos h2]); have HC := Lh (show Tt.code n.data.toList = true by simpa using hc); have v1 : ¬ v < 0 := by omega
    have v2 : ¬ 64 < v := by omega
    clear hc h1; go_enter Tryz.func47, Tryz.ntmps47; go_wp2_with (go_at_call 97; refine (code97 _ _).mono ?_; rintro e w' ⟨rfl, rfl⟩; rw [HC.out]); go_ret; exact ⟨ret_int HR.out.symm, below_box _ _⟩
   ·have v1 : ¬ v < 0 := by omega
    have v2 : ¬ 64 < v := by omega
    have HC := Lh (show Tt.code n.data.toList = true by simpa using hc); have HV := Lh (show feedV n v es = evsF v es 0 by unfold feedV; rw [if_neg hc, if_neg h1, if_neg h2]; rfl); have F0 : FeedB w.heap.size n v (.slice ao es.length c) (w.alloc (.cells #[.string n, .int .i64 v, .slice ao es.length c] 26)) := heap_alloc_new w _; have HF0 := Lh F0; clear hc h1 F0; go_enter Tryz.func47, Tryz.ntmps47; go_wp2_with (go_at_call 97; refine (code97 _ _).mono ?_; rintro e w' ⟨rfl, rfl⟩; rw [HC.out]); go_loopw [3] (fun iv wr => ∃ k : Nat, iv = .int .i64 k /\ k <= es.length /\ Below w.heap.size w wr /\ Hid (FeedB w.heap.size n v (.slice ao es.length c) wr) /\ Hid (evsF v es 0 = evsF v es k)) (fun iv _ => es.length - (intOf iv).toNat)
    case atStart => exact ⟨0, rfl, Nat.zero_le _, below_box _ _, HF0.out, rfl⟩
    case round =>
     obtain ⟨k, rfl, hk, hbe, HF, HK⟩ := hrel; have f0 := HF.out.c0; have f1 := HF.out.c1; have f2 := HF.out.c2; have hsz := HF.out.lt; by_cases hlt : k < es.length
     ·obtain ⟨e, he⟩ : ∃ e, es[k]? = some e := ⟨_, List.getElem?_eq_getElem hlt⟩
      obtain ⟨b, o, ha, hb, hev⟩ := HE.out.form (by omega); subst ha; obtain ⟨hE1, x, x', hC, hX, hX'⟩ := hev k e he; have HCW := hC.below (w' := wr) hb (hbe.mono hB); obtain ⟨c0, c1, c2, c3, c4, c5, c6, c7, c8, c9, c10, c11, c12⟩ := HCW; obtain ⟨ax, cx, hx, hI⟩ := hX; obtain ⟨ay, cy, hy, hI'⟩ := hX'; subst hx hy; have HEV := Lh hev; have hki : (k : Int) < (es.length : Int) := by omega
      clear hev; have HC0 := Lh hC; have HSTEP := Lh (evsF_cons v es k e he); clear he; go_wp2_with fail; refine (right98 e.uid wr hE1.uid).mono ?_; rintro z w1 ⟨rfl, hb1⟩; have hbe1 := below_then hbe hb1; have HF1 := Lh (HF.out.block (hb1.block _ hsz)); have hsz1 := HF1.out.lt; clear hb1 HF c0 c1 c2 c3 c4 c5 c6 c7 c8 c9 c10 c11 c12 f0 f1 f2; have HC1 := HC0.out.below (w' := w1) hb (hbe1.mono hB); obtain ⟨c0, c1, c2, c3, c4, c5, c6, c7, c8, c9, c10, c11, c12⟩ := HC1; have f0 := HF1.out.c0; have f1 := HF1.out.c1; have f2 := HF1.out.c2; cases hr : rightB e.uid.data.toList
      ·have HR := Lh (show feedV n v es = 4 from HV.out.trans (HK.out.trans (HSTEP.out.trans (if_pos hr)))); clear hr; go_wp2_with fail; go_ret; exact ⟨ret_int HR.out.symm, hbe1⟩
      ·have HST2 := Lh (HSTEP.out.trans (if_neg (by rw [hr]; simp))); clear hr; cases k with
       | zero =>
        go_wp2_with fail; go_quiet (fail)
        obtain ⟨w2, hw2, hB2, hC2, hH2⟩ := redrew w1 nq; have hbe2 := hbe1.trans (hB2 _); have HC2 := Lh (HC0.out.below (w' := w2) hb (hbe2.mono hB)); rw [Nat.zero_mul, Nat.add_zero] at HC2; have HF2 := Lh (HF1.out.block (hH2 _)); have hsz2 := HF2.out.lt; rw [<- hw2]; clear hw2 hB2 hC2 hH2 c0 c1 c2 c3 c4 c5 c6 c7 c8 c9 c10 c11 c12 f0 f1 f2 HF1 hbe1 hsz1; obtain ⟨c0, c1, c2, c3, c4, c5, c6, c7, c8, c9, c10, c11, c12⟩ := HC2.out; have f0 := HF2.out.c0; have f1 := HF2.out.c1; have f2 := HF2.out.c2; have HST3 := Lh (HST2.out.trans (if_neg (by show ¬ (false = true); simp))); go_wp2_with fail; go_still_tail 7, (by kernel_rfl)
        change wpList _ _ _ _ _ w2.drew; go_wp2_with fail; refine (fault99 e v B _ ax ay cx cy (Nat.le_trans hB (below_drw hbe2).size) (hI.below ((below_drw hbe2).mono hB)) (hI'.below ((below_drw hbe2).mono hB)) hE1.ex hE1.xt hE1.summ hE1.loc).mono ?_; rintro z w3 ⟨rfl, hb3⟩; have hbe3 := below_then (below_drw hbe2) hb3; have HF3 := Lh (HF2.out.block (hb3.block _ hsz2)); by_cases hcv : checkV e v = 0
        ·have HR := Lh (show evsF v es 0 = evsF v es (0 + 1) from HST3.out.trans (if_neg (by simp [hcv]))); rw [hcv]; clear hcv; go_wp2_with fail; go_roundw
         case rel => exact ⟨0 + 1, by go_num, by omega, hbe3, HF3.out, HR.out⟩
         case measure => simp [intOf]; omega
        ·have HR := Lh (show feedV n v es = checkV e v from HV.out.trans (HST3.out.trans (if_pos hcv))); have hcv2 : (checkV e v != 0) = true := by simp [hcv]
         clear hcv; go_wp2_with fail; go_ret; exact ⟨ret_int HR.out.symm, hbe3⟩
       | succ j =>
        obtain ⟨p, hp⟩ : ∃ p, es[j]? = some p := ⟨_, List.getElem?_eq_getElem (by omega)⟩
        obtain ⟨_, y, y', hCp, _, _⟩ := HEV.out j p hp; have p0 := (hCp.below (w' := w1) hb (hbe1.mono hB)).c0; clear hCp; go_wp2_with fail; go_quiet (fail)
        obtain ⟨w2, hw2, hB2, hC2, hH2⟩ := redrew w1 nq; have hbe2 := hbe1.trans (hB2 _); have HC2 := Lh (HC0.out.below (w' := w2) hb (hbe2.mono hB)); have HF2 := Lh (HF1.out.block (hH2 _)); have hsz2 := HF2.out.lt; rw [<- hw2]; clear hw2 hB2 hC2 hH2 c0 c1 c2 c3 c4 c5 c6 c7 c8 c9 c10 c11 c12 f0 f1 f2 HF1 hbe1 hsz1 p0; obtain ⟨c0, c1, c2, c3, c4, c5, c6, c7, c8, c9, c10, c11, c12⟩ := HC2.out; have f0 := HF2.out.c0; have f1 := HF2.out.c1; have f2 := HF2.out.c2; have hprev := Lh (prevU_succ es j p hp); cases hlt2 : (Op.bytesLess e.uid.toList p.uid.toList || e.uid.toList == p.uid.toList)
        case true =>
         have HR := Lh (show feedV n v es = 63 from HV.out.trans (HK.out.trans (HST2.out.trans (if_pos (by rw [hprev.out]; exact hlt2))))); clear hlt2 hp; go_wp2_with fail; go_ret; exact ⟨ret_int HR.out.symm, hbe2⟩
        have HST3 := Lh (HST2.out.trans (if_neg (by rw [hprev.out]; show ¬ (_ = true); rw [show lateU (some p.uid) e.uid = false from hlt2]; simp))); clear hlt2 hp; go_wp2_with fail; have hj0 : (0 : Int) <= (j : Int) + 1 := by omega
        have hjn : ((j : Int) + 1).toNat = j + 1 := by omega
        have hjl : (j : Int) + 1 < (es.length : Int) := by omega
        go_still_tail 7, (by kernel_rfl)
        clear hj0 hjn hjl; change wpList _ _ _ _ _ w2.drew; go_wp2_with fail; refine (fault99 e v B _ ax ay cx cy (Nat.le_trans hB (below_drw hbe2).size) (hI.below ((below_drw hbe2).mono hB)) (hI'.below ((below_drw hbe2).mono hB)) hE1.ex hE1.xt hE1.summ hE1.loc).mono ?_; rintro z w3 ⟨rfl, hb3⟩; have hbe3 := below_then (below_drw hbe2) hb3; have HF3 := Lh (HF2.out.block (hb3.block _ hsz2)); by_cases hcv : checkV e v = 0
        ·have HR := Lh (show evsF v es 0 = evsF v es ((j + 1) + 1) from HK.out.trans (HST3.out.trans (if_neg (by simp [hcv])))); rw [hcv]; clear hcv; go_wp2_with fail; go_roundw
         case rel => exact ⟨(j + 1) + 1, by go_num, by omega, hbe3, HF3.out, HR.out⟩
         case measure => simp [intOf]; omega
        ·have HR := Lh (show feedV n v es = checkV e v from HV.out.trans (HK.out.trans (HST3.out.trans (if_pos hcv)))); have hcv2 : (checkV e v != 0) = true := by simp [hcv]
         clear hcv; go_wp2_with fail; go_ret; exact ⟨ret_int HR.out.symm, hbe3⟩
     ·have hki : ¬ (k : Int) < (es.length : Int) := by omega
      have HR := Lh (show feedV n v es = 0 from HV.out.trans (HK.out.trans (evsF_end v es k (by omega)))); go_wp2_with fail; go_ret; exact ⟨ret_int HR.out.symm, hbe⟩
def RefS (B : Nat) (w : World) (t : Ev × Value × Value) : Prop := EvB t.1 /\ SlI B w t.2.1 t.1.days.ex /\ SlI B w t.2.2 t.1.days.xt
structure Seg (B : Nat) (w : World) (ao : Option Addr) (ts : List (Ev × Value × Value)) : Prop where
 at' : ts = [] ∨ ∃ b o, ao = some ⟨b, o, none⟩ /\ b < B /\ ∀ (j : Nat) (u : Value), (tCells ts)[j]? = some u -> w.cell? ⟨b, o + j, none⟩ = some u
 ref : ∀ t ∈ ts, RefS B w t
theorem Seg.nil (B : Nat) (w : World) (ao : Option Addr) : Seg B w ao [] := ⟨.inl rfl, fun t h => by cases h⟩
theorem seg_c {w : World} {b o : Nat} {ts : List (Ev × Value × Value)} (h : ∀ (j : Nat) (u : Value), (tCells ts)[j]? = some u -> w.cell? ⟨b, o + j, none⟩ = some u) (j : Nat) (t : Ev × Value × Value) (ht : ts[j]? = some t) : EvC b (o + j * 13) t.1 t.2.1 t.2.2 w := by
 have hc : ∀ i u, i < 13 -> (evCells t.1 t.2.1 t.2.2).toList[i]? = some u -> w.cell? ⟨b, o + j * 13 + i, none⟩ = some u := fun i u hi hu => by
  rw [Nat.add_assoc]; exact h (j * 13 + i) u (by rw [tCells_get ts j i t ht hi]; exact hu)
 refine ⟨?_, ?_, ?_, ?_, ?_, ?_, ?_, ?_, ?_, ?_, ?_, ?_, ?_⟩
 ·exact hc 0 _ (by omega) rfl
 ·exact hc 1 _ (by omega) rfl
 ·exact hc 2 _ (by omega) rfl
 ·exact hc 3 _ (by omega) rfl
 ·exact hc 4 _ (by omega) rfl
 ·exact hc 5 _ (by omega) rfl
 ·exact hc 6 _ (by omega) rfl
 ·exact hc 7 _ (by omega) rfl
 ·exact hc 8 _ (by omega) rfl
 ·exact hc 9 _ (by omega) rfl
 ·exact hc 10 _ (by omega) rfl
 ·exact hc 11 _ (by omega) rfl
 ·exact hc 12 _ (by omega) rfl
theorem Seg.evs {B : Nat} {w : World} {ao : Option Addr} {ts : List (Ev × Value × Value)} (h : Seg B w ao ts) : Evs B w ao (ts.map (·.1)) := by
 rcases h.at' with h | ⟨b, o, ha, hb, hc⟩
 ·exact .inl (by rw [h]; rfl)
 ·refine .inr ⟨b, o, ha, hb, fun j e hj => ?_⟩; obtain ⟨t, ht, he⟩ : ∃ t, ts[j]? = some t /\ t.1 = e := by
   rw [List.getElem?_map] at hj; cases h2 : ts[j]? with
   | none => rw [h2] at hj; cases hj
   | some t => rw [h2] at hj; exact ⟨t, rfl, by simpa using hj⟩
  subst he; obtain ⟨r1, r2, r3⟩ := h.ref t (List.mem_of_getElem? ht); exact ⟨r1, t.2.1, t.2.2, seg_c hc j t ht, r2, r3⟩
def lessU (a b : ByteArray) : Bool := Op.bytesLess a.toList b.toList
theorem lessU_iff (a b : ByteArray) : lessU a b = true ↔ a.toList < b.toList := by unfold lessU; rw [bytesLess_eq]; simp
theorem evsV_cons (v : Int) (p : Option ByteArray) (e : Ev) (r : List Ev) : evsV v p (e :: r) = 0 ↔ rightB e.uid.data.toList = true /\ lateU p e.uid = false /\ checkV e v = 0 /\ evsV v (some e.uid) r = 0 := by
 rw [evsV]; constructor
 ·intro h; split at h
  ·cases h
  ·rename_i h1
   split at h
   ·cases h
   ·rename_i h2
    split at h
    ·rename_i h3; exact absurd h h3
    ·rename_i h3; exact ⟨by simpa using h1, by simpa using h2, by simpa using h3, h⟩
 ·rintro ⟨h1, h2, h3, h4⟩; rw [if_neg (by rw [h1]; simp), if_neg (by rw [h2]; simp), if_neg (by rw [h3]; simp)]; exact h4
def cmpU (a b : ByteArray) : Int := Lib.compareBytes a.data.toList b.data.toList
def ahead (es : List Ev) (u : ByteArray) (k : Nat) : Prop := ∃ e, es[k]? = some e /\ cmpU e.uid u < 0
theorem evsV_each (v : Int) : ∀ (es : List Ev) (p : Option ByteArray), evsV v p es = 0 -> ∀ e ∈ es, rightB e.uid.data.toList = true /\ checkV e v = 0
 | [], _, _, _, he => by cases he
 | s :: r, p, h, e, he => by
  obtain ⟨h1, h2, h3, h4⟩ := (evsV_cons v p s r).1 h; rcases List.mem_cons.1 he with rfl | he
  ·exact ⟨h1, h3⟩
  ·exact evsV_each v r _ h4 e he
theorem feedV_ok {n : ByteArray} {v : Int} {es : List Ev} (h : feedV n v es = 0) : 0 <= v /\ v <= 64 /\ es.length <= 256 /\ evsV v none es = 0 := by
 unfold feedV at h; split at h
 ·cases h
 ·split at h
  ·cases h
  ·split at h
   ·cases h
   ·exact ⟨by omega, by omega, by omega, h⟩
def headL (n : List UInt8) (v : Int) : List (List UInt8) := [[66, 69, 71, 73, 78, 58, 86, 67, 65, 76, 69, 78, 68, 65, 82], [86, 69, 82, 83, 73, 79, 78, 58, 50, 46, 48], [80, 82, 79, 68, 73, 68, 58, 45, 47, 47, 116, 105, 109, 101, 116, 97, 98, 108, 101, 47, 47, 69, 78], [78, 65, 77, 69, 58] ++ n, [82, 69, 86, 73, 83, 73, 79, 78, 58] ++ Lib.decDigits v.toNat]
def feedL (n : List UInt8) (v : Int) (es : List Ev) (z : List UInt8) : List (List UInt8) := headL n v ++ es.flatMap (fun e => evLines e z) ++ [[69, 78, 68, 58, 86, 67, 65, 76, 69, 78, 68, 65, 82]]
theorem evLines_len (e : Ev) (z : List UInt8) : (evLines e z).length <= 13 := by
 unfold evLines; simp only [List.length_append]; have h1 : (evA e z).length = 6 := rfl; have h2 : (evX e z).length <= 1 := by unfold evX; split <;> simp
 have h3 : (evR e z).length <= 1 := by unfold evR; split <;> simp
 have h4 : (evS e).length = 1 := rfl; have h5 : (evL e).length <= 1 := by unfold evL; split <;> simp
 have h6 : (evC e).length = 2 := rfl; omega
theorem flat_len (z : List UInt8) : ∀ es : List Ev, (es.flatMap fun e => evLines e z).length <= 13 * es.length
 | [] => Nat.le_refl _
 | e :: r => by
  rw [List.flatMap_cons, List.length_append, List.length_cons]; have := flat_len z r; have := evLines_len e z; omega
theorem right_size {u : ByteArray} (h : rightB u.data.toList = true) : u.size <= 1000 := by
 rw [Lib.size_eq]; generalize u.data.toList = l at h; by_cases hm : (64 : UInt8) ∈ l
 ·obtain ⟨a, b, rfl, ha⟩ := Tt.first_split l hm; unfold rightB Tt.rightP at h; rw [Tt.cut_first a b ha] at h; simp only [Bool.true_and, Bool.and_eq_true] at h; obtain ⟨hc, hn⟩ := h; have hla : a.length <= 16 := by
   cases a with
   | nil => simp
   | cons c r =>
    unfold Tt.code at hc; simp only [Bool.and_eq_true, decide_eq_true_eq] at hc; exact hc.1.1
  have hlb : b.length <= 5 := by
   unfold Tt.numFrom at hn; rw [decide_eq_true_iff] at hn; obtain ⟨j, hj, -, rfl⟩ := hn; exact Tt.dec_len 4 j (by omega)
  simp only [List.length_append, List.length_cons]; omega
 ·rw [show rightB l = false from Tt.rightP_none _ _ hm] at h; cases h
theorem code_size {z : ByteArray} (h : Tt.code z.data.toList = true) : z.size <= 16 := by
 rw [Lib.size_eq]; generalize z.data.toList = l at h; cases l with
 | nil => simp
 | cons c r =>
  unfold Tt.code at h; simp only [Bool.and_eq_true, decide_eq_true_eq] at h; exact h.1.1
theorem written100 (n : ByteArray) (v : Int) (af : Option Addr) (cf : Nat) (es : List Ev) (z : ByteArray) (BB : Nat) (w : World) (hBB : BB <= w.heap.size) (hE : Evs BB w af es) (hv : feedV n v es = 0) (hz : Tt.code z.data.toList = true) (hL : Lens w) (hP : Pow w) (h6 : 6 < w.heap.size) :
  Calls Tryz.prog 100 #[.agg #[.string n, .int .i64 v, .slice af es.length cf], .string z] w fun e w' => ∃ g cap, e = .returned (.slice (some ⟨g, 0, none⟩) (feedL n.data.toList v es z.data.toList).length cap) /\ StrAt w' (some ⟨g, 0, none⟩) ((feedL n.data.toList v es z.data.toList).map str) /\ w.heap.size <= g /\ g < w'.heap.size /\ (feedL n.data.toList v es z.data.toList).length <= cap /\ Below w.heap.size w w' := by
 obtain ⟨v0, v1, hlen, hev⟩ := feedV_ok hv; have hzs := code_size hz; have hns : n.size <= 16 := by
  unfold feedV at hv; split at hv
  ·cases hv
  ·rename_i hc
   exact code_size (by simpa using hc)
 have HEV := Lh (evsV_each v es none hev); have HE := Lh hE; have HL := Lh hL; have HP := Lh hP; obtain ⟨W0, hW0⟩ : ∃ W0, W0 = (w.alloc (.cells #[.string n, .int .i64 v, .slice af es.length cf] 26)).alloc (.cells #[.slice none 0 0] 210) := ⟨_, rfl⟩
 have HS := written_start n v (.slice af es.length cf) w; rw [<- hW0] at HS; obtain ⟨hF0, hB0, hL0, hS0⟩ := HS; have HL0 := Lh hL0; have HFA0 := Lh hF0; have HF0 := Lh hB0; have hs0 : w.heap.size + 2 <= W0.heap.size := by omega
 have HK0 := Lh (But.refl (w.heap.size + 1) (w.heap.size + 2) W0); have HS0 := Lh hS0; obtain ⟨m, hmm⟩ : ∃ m, m = es.length := ⟨_, rfl⟩
 have HM := Lh hmm; obtain ⟨b, hb⟩ : ∃ b, b = w.heap.size + 1 := ⟨_, rfl⟩
 obtain ⟨B, hB⟩ : ∃ B, B = w.heap.size + 2 := ⟨_, rfl⟩
 obtain ⟨F, hF⟩ : ∃ F, F = w.heap.size := ⟨_, rfl⟩
 have hFb : F < b := by omega
 have hbB : b < B := by omega
 have hFB : F < B := by omega
 have hBs : B <= W0.heap.size := by omega
 have hb6 : 6 < b := by omega
 have hwb : w.heap.size <= b := by omega
 have hwB : w.heap.size <= B := by omega
 have hwb1 : w.heap.size < b := by omega
 rw [<- hF] at HFA0; rw [<- hb, <- hB] at HF0 HK0; rw [<- hmm] at hW0 HFA0 hlen ⊢; clear hE hL hP hF0 hB0 hL0 hS0 hev hv hmm hB; go_enter Tryz.func100, Tryz.ntmps100; go_upto_region 2 with (fail); rw [<- hW0, <- hb, <- hF]; clear hW0 hb hF hs0; obtain ⟨y0, hy0⟩ : ∃ y : List ByteArray, y = [] := ⟨_, rfl⟩
 have HY0 := Lh hy0; have HN0 := Lh (show y0.length <= 0 from by rw [hy0]; exact Nat.le_refl _); rw [<- hy0] at HF0; clear hy0; go_wp2_with fail; refine (put_parts2 b B W0.heap.size y0 [⟨#[66, 69, 71, 73, 78, 58, 86, 67, 65, 76, 69, 78, 68, 65, 82]⟩] W0 rfl HF0.out (Nat.le_trans hBs HK0.out.size) (by simp) (by simp only [List.map_cons, List.map_nil, List.flatten_cons, List.flatten_nil, List.append_nil, List.length_cons, List.length_nil]; omega) (by have := HN0.out; omega)).mono ?_; rintro x W1 ⟨rfl, hf, hk, -⟩; obtain ⟨y1, hy⟩ : ∃ y, y = y0 ++ [str ([66, 69, 71, 73, 78, 58, 86, 67, 65, 76, 69, 78, 68, 65, 82])] := ⟨_, rfl⟩
 have HF1 := Lh (show Buf b B y1 W1 from by rw [hy]; simpa only [List.map_cons, List.map_nil, List.flatten_cons, List.flatten_nil, List.append_nil, List.cons_append, List.nil_append] using hf); have HY1 := Lh hy; have HN1 := Lh (show y1.length <= 1 from by rw [hy, List.length_append]; have := HN0.out; simp only [List.length_cons, List.length_nil]; omega); have HK1 := Lh (HK0.out.trans hk); have HFA1 := Lh (HFA0.out.but hk hFB (Nat.ne_of_lt hFb)); clear hf hy hk HF0 HK0 HFA0; go_wp2_with fail; refine (put_parts2 b B W1.heap.size y1 [⟨#[86, 69, 82, 83, 73, 79, 78, 58, 50, 46, 48]⟩] W1 rfl HF1.out (Nat.le_trans hBs HK1.out.size) (by simp) (by simp only [List.map_cons, List.map_nil, List.flatten_cons, List.flatten_nil, List.append_nil, List.length_cons, List.length_nil]; omega) (by have := HN1.out; omega)).mono ?_; rintro x W2 ⟨rfl, hf, hk, -⟩; obtain ⟨y2, hy⟩ : ∃ y, y = y1 ++ [str ([86, 69, 82, 83, 73, 79, 78, 58, 50, 46, 48])] := ⟨_, rfl⟩
 have HF2 := Lh (show Buf b B y2 W2 from by rw [hy]; simpa only [List.map_cons, List.map_nil, List.flatten_cons, List.flatten_nil, List.append_nil, List.cons_append, List.nil_append] using hf); have HY2 := Lh hy; have HN2 := Lh (show y2.length <= 2 from by rw [hy, List.length_append]; have := HN1.out; simp only [List.length_cons, List.length_nil]; omega); have HK2 := Lh (HK1.out.trans hk); have HFA2 := Lh (HFA1.out.but hk hFB (Nat.ne_of_lt hFb)); clear hf hy hk HF1 HK1 HFA1; go_wp2_with fail; refine (put_parts2 b B W2.heap.size y2 [⟨#[80, 82, 79, 68, 73, 68, 58, 45, 47, 47, 116, 105, 109, 101, 116, 97, 98, 108, 101, 47, 47, 69, 78]⟩] W2 rfl HF2.out (Nat.le_trans hBs HK2.out.size) (by simp) (by simp only [List.map_cons, List.map_nil, List.flatten_cons, List.flatten_nil, List.append_nil, List.length_cons, List.length_nil]; omega) (by have := HN2.out; omega)).mono ?_; rintro x W3 ⟨rfl, hf, hk, -⟩; obtain ⟨y3, hy⟩ : ∃ y, y = y2 ++ [str ([80, 82, 79, 68, 73, 68, 58, 45, 47, 47, 116, 105, 109, 101, 116, 97, 98, 108, 101, 47, 47, 69, 78])] := ⟨_, rfl⟩
 have HF3 := Lh (show Buf b B y3 W3 from by rw [hy]; simpa only [List.map_cons, List.map_nil, List.flatten_cons, List.flatten_nil, List.append_nil, List.cons_append, List.nil_append] using hf); have HY3 := Lh hy; have HN3 := Lh (show y3.length <= 3 from by rw [hy, List.length_append]; have := HN2.out; simp only [List.length_cons, List.length_nil]; omega); have HK3 := Lh (HK2.out.trans hk); have HFA3 := Lh (HFA2.out.but hk hFB (Nat.ne_of_lt hFb)); clear hf hy hk HF2 HK2 HFA2; have f0 := HFA3.out.c0; have f1 := HFA3.out.c1; have f2 := HFA3.out.c2; go_wp2_with fail; refine (put_parts2 b B W3.heap.size y3 [⟨#[78, 65, 77, 69, 58]⟩, n] W3 rfl HF3.out (Nat.le_trans hBs HK3.out.size) (by simp) (by simp only [List.map_cons, List.map_nil, List.flatten_cons, List.flatten_nil, List.append_nil, List.length_append, List.length_cons, List.length_nil, <- Lib.size_eq]; omega) (by have := HN3.out; omega)).mono ?_; rintro x W4 ⟨rfl, hf, hk, -⟩; obtain ⟨y4, hy⟩ : ∃ y, y = y3 ++ [str ([78, 65, 77, 69, 58] ++ n.data.toList)] := ⟨_, rfl⟩
 have HF4 := Lh (show Buf b B y4 W4 from by rw [hy]; simpa only [List.map_cons, List.map_nil, List.flatten_cons, List.flatten_nil, List.append_nil, List.cons_append, List.nil_append] using hf); have HY4 := Lh hy; have HN4 := Lh (show y4.length <= 4 from by rw [hy, List.length_append]; have := HN3.out; simp only [List.length_cons, List.length_nil]; omega); have HK4 := Lh (HK3.out.trans hk); have HFA4 := Lh (HFA3.out.but hk hFB (Nat.ne_of_lt hFb)); clear hf hy hk HF3 HK3 HFA3 f0 f1 f2; have f0 := HFA4.out.c0; have f1 := HFA4.out.c1; have f2 := HFA4.out.c2; go_wp2_with fail; refine (itoa136 v W4 (HP.out.below h6 (HL0.out.trans (HK4.out.below (by omega) (by omega)))) (by omega) (by omega)).mono ?_; rintro x W5 ⟨rfl, hb⟩; obtain ⟨t5, ht⟩ : ∃ t, t = (⟨(Lib.decDigits v.toNat).toArray⟩ : ByteArray) := ⟨_, rfl⟩
 have zt5 : t5.size <= 5 := by rw [ht, size_mk]; exact Tt.dec_len 4 _ (by omega)
 rw [<- ht]; have HT5 := Lh (show t5.data.toList = Lib.decDigits v.toNat from by rw [ht]); clear ht f0 f1 f2; have HF5 := Lh (HF4.out.kept hb); have HK5 := Lh (HK4.out.trans (But.of_below (hb.mono (Nat.le_trans hBs HK4.out.size)))); have HFA5 := Lh (HFA4.out.but (But.of_below (b := b) (hb.mono (Nat.le_trans hBs HK4.out.size))) hFB (Nat.ne_of_lt hFb)); clear hb HF4 HK4 HFA4; go_wp2_with fail; refine (put_parts2 b B W5.heap.size y4 [⟨#[82, 69, 86, 73, 83, 73, 79, 78, 58]⟩, t5] W5 rfl HF5.out (Nat.le_trans hBs HK5.out.size) (by simp) (by simp only [List.map_cons, List.map_nil, List.flatten_cons, List.flatten_nil, List.append_nil, List.length_append, List.length_cons, List.length_nil, <- Lib.size_eq]; omega) (by have := HN4.out; omega)).mono ?_; rintro x W6 ⟨rfl, hf, hk, -⟩; obtain ⟨y6, hy⟩ : ∃ y, y = y4 ++ [str ([82, 69, 86, 73, 83, 73, 79, 78, 58] ++ Lib.decDigits v.toNat)] := ⟨_, rfl⟩
 have HF6 := Lh (show Buf b B y6 W6 from by rw [hy]; simpa only [List.map_cons, List.map_nil, List.flatten_cons, List.flatten_nil, List.append_nil, List.cons_append, List.nil_append, HT5.out] using hf); have HY6 := Lh hy; have HN6 := Lh (show y6.length <= 5 from by rw [hy, List.length_append]; have := HN4.out; simp only [List.length_cons, List.length_nil]; omega); have HK6 := Lh (HK5.out.trans hk); have HFA6 := Lh (HFA5.out.but hk hFB (Nat.ne_of_lt hFb)); clear hf hy hk HF5 HK5 HFA5; have HYA := Lh (show y6 = (headL n.data.toList v).map str from by rw [HY6.out, HY4.out, HY3.out, HY2.out, HY1.out, HY0.out]; rfl); clear HY6 HY4 HY3 HY2 HY1 HY0; have f0 := HFA6.out.c0; have f1 := HFA6.out.c1; have f2 := HFA6.out.c2; go_wp2_with fail; clear f0 f1 f2; go_loopw [33] (fun iv wr => ∃ (i : Nat) (y : List ByteArray), iv = .int .i64 i /\ i <= m /\ Hid (y = (headL n.data.toList v ++ (es.take i).flatMap fun e => evLines e z.data.toList).map str) /\ Hid (Buf b B y wr) /\ Hid (But b B W0 wr)) (fun iv _ => m - (intOf iv).toNat)
 case atStart => exact ⟨0, y6, rfl, Nat.zero_le _, Lh (by rw [HYA.out]; simp), HF6, HK6⟩
 case round =>
  clear HYA HF6 HK6 HFA6; obtain ⟨i, y, rfl, hi, HY, HF, HK⟩ := hrel; have HN := Lh (show y.length <= 4000 from by
   rw [HY.out, List.length_map, List.length_append]; have h1 := flat_len z.data.toList (es.take i); have h2 : (headL n.data.toList v).length = 5 := rfl; rw [List.length_take] at h1; omega)
  have hsr := Nat.le_trans hBs HK.out.size; have HWr := Lh (show Below w.heap.size w wr from HL0.out.trans (HK.out.below (by omega) (by omega))); by_cases hlt : i < m
  ·have hx : i < es.length := by rw [<- HM.out]; exact hlt
   have hlti : (i : Int) < m := by omega
   obtain ⟨bo, oo, hao, hbo, hcell⟩ := HE.out.form (by omega); subst hao; obtain ⟨e, hee⟩ : ∃ e, e = es[i] := ⟨_, rfl⟩
   have hge : es[i]? = some e := by rw [hee]; exact List.getElem?_eq_getElem hx
   obtain ⟨hE1, x, x', hC, hX, hX'⟩ := hcell i e hge; have hck := HEV.out e (by rw [hee]; exact List.getElem_mem hx); have HT := Lh (show es.take (i + 1) = es.take i ++ [e] from by rw [List.take_succ_eq_append_getElem hx, hee]); obtain ⟨c0, c1, c2, c3, c4, c5, c6, c7, c8, c9, c10, c11, c12⟩ := hC.below (w' := wr) hbo (HWr.out.mono hBB); obtain ⟨ax, cx, hxx, hI⟩ := hX; obtain ⟨ay, cy, hyy, hI'⟩ := hX'; subst hxx hyy; have HI := Lh (hI.below (HWr.out.mono hBB)); have HI' := Lh (hI'.below (HWr.out.mono hBB)); have HCK := Lh hck; have HUS := Lh (right_size hck.1); clear hcell hee hge hE1 hC hI hI' hck hbo; go_upto_region 10 with (fail); obtain ⟨W, hW⟩ : ∃ W, W = wr.alloc (.cells (evCells e (.slice ax e.days.ex.length cx) (.slice ay e.days.xt.length cy)) 82) := ⟨_, rfl⟩
   obtain ⟨g, hg⟩ : ∃ g, g = wr.heap.size := ⟨_, rfl⟩
   have HBX := Lh (show Below wr.heap.size wr W from by rw [hW]; exact below_box wr _); have HGB := Lh (show Blk g (evCells e (.slice ax e.days.ex.length cx) (.slice ay e.days.xt.length cy)) 82 W from by rw [hW, hg]; exact Blk.new wr _ 82); unfold evCells at hW; rw [<- hW, <- hg]; clear hW hg c0 c1 c2 c3 c4 c5 c6 c7 c8 c9 c10 c11 c12; obtain ⟨c0, c1, c2, c3, c4, c5, c6, c7, c8, c9, c10, c11, c12⟩ := EvBox.c (e := e) (v := .slice ax e.days.ex.length cx) (v' := .slice ay e.days.xt.length cy) HGB.out; simp only [Nat.zero_add] at c0 c1 c2 c3 c4 c5 c6 c7 c8 c9 c10 c11 c12; have hBW := Nat.le_trans hsr HBX.out.size; have HWW := Lh (show Below w.heap.size w W from HWr.out.trans (HBX.out.mono (by omega))); have HC : Hid (Calls Tryz.prog 173 #[.pointer (some ⟨b, 0, none⟩), evVal e (.slice ax e.days.ex.length cx) (.slice ay e.days.xt.length cy), .string z] W fun x w' => x = .returned (.tuple #[]) /\ Buf b B (y ++ (evLines e z.data.toList).map str) w' /\ But b B W w' /\ Keep9 b W w') := Lh (event173 b B y e v ax ay cx cy z W (HF.out.kept HBX.out) hBW hb6 (by have := HN.out; omega) HCK.out.2 (by omega) HUS.out (by omega) ((HI.out.below (HBX.out.mono (by omega))).mono (by omega)) ((HI'.out.below (HBX.out.mono (by omega))).mono (by omega)) (HL.out.below (by omega) HWW.out) (HP.out.below h6 HWW.out)); unfold evVal evCells at HC; go_wp2_with fail; refine HC.out.mono ?_; rintro x W9 ⟨rfl, hf, hk, -⟩; have HF9 := Lh hf; have HK9 := Lh (HK.out.trans ((But.of_below (b := b) (HBX.out.mono hsr)).trans hk)); clear hf hk HC c0 c1 c2 c3 c4 c5 c6 c7 c8 c9 c10 c11 c12; go_wp2_with fail; go_roundw
   case rel => exact ⟨i + 1, y ++ (evLines e z.data.toList).map str, by go_num, by omega, Lh (by rw [HY.out, HT.out, List.flatMap_append, List.flatMap_cons, List.flatMap_nil, List.append_nil, <- List.append_assoc, List.map_append (l₁ := _ ++ _)]), HF9, HK9⟩
   case measure => simp [intOf]; omega
  ·have hlti : ¬ (i : Int) < m := by omega
   have HTA := Lh (show es.take i = es from List.take_of_length_le (by rw [<- HM.out]; omega)); obtain ⟨yr, hyr⟩ : ∃ q, q = y := ⟨_, rfl⟩
   go_wp2_with fail; refine (put_parts2 b B wr.heap.size y [⟨#[69, 78, 68, 58, 86, 67, 65, 76, 69, 78, 68, 65, 82]⟩] wr rfl HF.out hsr (by simp) (by simp only [List.map_cons, List.map_nil, List.flatten_cons, List.flatten_nil, List.append_nil, List.length_cons, List.length_nil]; omega) (by have := HN.out; omega)).mono ?_; rintro x W9 ⟨rfl, hf, hk, -⟩; have HKE := Lh (HK.out.trans hk); have HYE := Lh (show y ++ [str [69, 78, 68, 58, 86, 67, 65, 76, 69, 78, 68, 65, 82]] = (feedL n.data.toList v es z.data.toList).map str from by rw [HY.out, HTA.out]; unfold feedL; rw [List.map_append (l₂ := [_])]; rfl); have HFE := Lh (show Buf b B ((feedL n.data.toList v es z.data.toList).map str) W9 from by rw [<- HYE.out]; simpa only [List.map_cons, List.map_nil, List.flatten_cons, List.flatten_nil, List.append_nil] using hf); clear hf hk hyr; obtain ⟨u, h6, o6⟩ := HFE.out.ex; have cb : W9.cell? ⟨b, 0, none⟩ = some u := by rw [Lib.cell_of_heap h6]; rfl
   have hfl : 0 < (feedL n.data.toList v es z.data.toList).length := by unfold feedL; rw [List.length_append]; simp
   rw [List.length_map] at o6; obtain ⟨g, cap, hu, hcap⟩ : ∃ g cap, u = .slice (some ⟨g, 0, none⟩) (feedL n.data.toList v es z.data.toList).length cap /\ (feedL n.data.toList v es z.data.toList).length <= cap := by
    rcases o6.2 with ⟨_, h0⟩ | ⟨g, cap, cur, hv, _, _, h5, _⟩
    ·omega
    ·exact ⟨g, cap, hv, by omega⟩
   rw [hu] at cb o6; have HO := Lh o6; have HCAP := Lh hcap; clear hu h6 o6 hfl hcap; go_wp2_with fail; go_ret; refine ⟨g, cap, rfl, ?_, ?_, (HO.out.lt g rfl).2, HCAP.out, HL0.out.trans (HKE.out.below (by omega) (by omega))⟩
   ·intro j x hx; exact ⟨_, rfl, HO.out.cells (g := g) rfl j (.string x) (by rw [List.getElem?_map, hx]; rfl)⟩
   ·have := (HO.out.lt g rfl).1; omega
def feedT (n : List UInt8) (v : Int) (es : List Ev) (z : List UInt8) : List UInt8 := (feedL n v es z).flatMap Tt.fold
def formatV (n : ByteArray) (v : Int) (es : List Ev) (z : ByteArray) : List UInt8 × Int :=
 if feedV n v es ≠ 0 then ([], feedV n v es)
 else if Tt.code z.data.toList = false then ([], 10)
 else if 262144 < ((feedT n.data.toList v es z.data.toList).length : Int) then ([], 2)
 else (feedT n.data.toList v es z.data.toList, 0)
theorem fold_str (ls : List (List UInt8)) : (ls.map str).flatMap (fun l => Tt.fold l.data.toList) = ls.flatMap Tt.fold := by
 induction ls with
 | nil => rfl
 | cons a r ih => rw [List.map_cons, List.flatMap_cons, List.flatMap_cons, ih]; rfl
theorem flat_bound (k : Nat) : ∀ ls : List ByteArray, (∀ x ∈ ls, x.size <= k) -> (ls.flatMap (fun l => Tt.fold l.data.toList)).length <= ls.length * (5 * k + 2)
 | [], _ => Nat.zero_le _
 | a :: r, h => by
  rw [List.flatMap_cons, List.length_append, List.length_cons, Nat.succ_mul]; have h1 := Tt.fold_length a.data.toList; have h2 := flat_bound k r (fun x hx => h x (List.mem_cons_of_mem _ hx)); have h3 := h a (List.mem_cons_self ..); rw [<- Lib.size_eq] at h1; omega
theorem line_len {e : Ev} {v : Int} {z : List UInt8} (hr : rightB e.uid.data.toList = true) (hc : checkV e v = 0) (hv : v <= 64) (hz : z.length <= 16) : ∀ l ∈ evLines e z, l.length <= 3000 := by
 obtain ⟨q0, q1, hsv, -, st0, st1, mi0, mi1, -, hls, hll⟩ := check_all hc; have hss := lab_size hls; have hsl := lab_size hll; have hh := ((Tt.serV_zero e.days).1 hsv).1; have hus := right_size hr; rw [Lib.size_eq] at hss hsl hus; have h1 := Tt.dec_len 4 e.seq.toNat (by omega); have h2 := Tt.dec_len 4 e.mins.toNat (by omega); have h3 := rule_len hh; have h4 := Tt.stampsL_len e.start e.days.ex; have h5 := Tt.stampsL_len e.start e.days.xt; have h6 := Tt.esc_length e.summ.data.toList; have h7 := Tt.esc_length e.loc.data.toList; have h8 := hh.n; have h9 := Tt.stampL_len e.days.first e.start; intro l hl; unfold evLines at hl; simp only [List.mem_append] at hl; rcases hl with ((((hl | hl) | hl) | hl) | hl) | hl
 ·unfold evA at hl; simp only [List.mem_cons, List.not_mem_nil, or_false] at hl; rcases hl with rfl | rfl | rfl | rfl | rfl | rfl <;> (simp only [List.length_append, List.length_cons, List.length_nil]; omega)
 ·unfold evX at hl; split at hl
  ·cases hl
  ·rw [List.mem_singleton] at hl; subst hl; simp only [List.length_append, List.length_cons, List.length_nil]; omega
 ·unfold evR at hl; split at hl
  ·cases hl
  ·rw [List.mem_singleton] at hl; subst hl; simp only [List.length_append, List.length_cons, List.length_nil]; omega
 ·unfold evS at hl; rw [List.mem_singleton] at hl; subst hl; simp only [List.length_append, List.length_cons, List.length_nil]; omega
 ·unfold evL at hl; split at hl
  ·cases hl
  ·rw [List.mem_singleton] at hl; subst hl; simp only [List.length_append, List.length_cons, List.length_nil]; omega
 ·unfold evC at hl; simp only [List.mem_cons, List.not_mem_nil, or_false] at hl; rcases hl with rfl | rfl
  ·split <;> decide
  ·decide
theorem feedL_lines {n z : ByteArray} {v : Int} {es : List Ev} (hv : feedV n v es = 0) (hz : Tt.code z.data.toList = true) : (∀ x ∈ (feedL n.data.toList v es z.data.toList).map str, x.size <= 3000) /\ ((feedL n.data.toList v es z.data.toList).map str).length <= 4000 := by
 obtain ⟨v0, v1, hlen, hev⟩ := feedV_ok hv; have hzs := code_size hz; have hns : n.size <= 16 := by
  unfold feedV at hv; split at hv
  ·cases hv
  ·rename_i hc
   exact code_size (by simpa using hc)
 rw [Lib.size_eq] at hzs hns; constructor
 ·intro x hx; obtain ⟨l, hl, rfl⟩ := List.mem_map.1 hx; rw [show (str l).size = l.length from size_mk l]; unfold feedL headL at hl; simp only [List.mem_append, List.mem_cons, List.not_mem_nil, or_false] at hl; have h1 := Tt.dec_len 4 v.toNat (by omega); rcases hl with ((rfl | rfl | rfl | rfl | rfl) | hl) | rfl
  ·decide
  ·decide
  ·decide
  ·simp only [List.length_append, List.length_cons, List.length_nil]; omega
  ·simp only [List.length_append, List.length_cons, List.length_nil]; omega
  ·obtain ⟨e, he, hl⟩ := List.mem_flatMap.1 hl; have hk := evsV_each v es none hev e he; exact line_len hk.1 hk.2 v1 hzs l hl
  ·decide
 ·rw [List.length_map]; unfold feedL; rw [List.length_append, List.length_append]; have h1 := flat_len z.data.toList es; have h2 : (headL n.data.toList v).length = 5 := rfl; simp only [List.length_cons, List.length_nil]; omega
end Go.Proofs.YtageielcdebjlaaGreatDoor
namespace Tt
open Go Go.Lib Go.Proofs.YtageielcdebjlaaGreatDoor
theorem indexByte_app (c : UInt8) (r : List UInt8) : ∀ a : List UInt8, c ∉ a -> indexByte (a ++ c :: r) c = a.length
 | [], _ => by rw [List.nil_append, indexByte]; simp
 | b :: a, h => by
  have h1 : b ≠ c := fun e => h (by rw [e]; exact List.mem_cons_self ..)
  have ih := indexByte_app c r a (fun m => h (List.mem_cons_of_mem _ m)); rw [List.cons_append, indexByte, ih, if_neg (by simpa using h1), if_neg (by rw [beq_iff_eq]; omega), List.length_cons]; omega
theorem split_app (c : UInt8) (a r : List UInt8) (h : c ∉ a) : split (a ++ c :: r) [c] = a :: split r [c] := by
 have hc : (a ++ c :: r).count c = r.count c + 1 := by
  rw [List.count_append, List.count_eq_zero_of_not_mem h, List.count_cons_self]; omega
 have hi : index (a ++ c :: r) [c] = a.length := by rw [index_one, indexByte_app c r a h]
 unfold split; rw [count_one, count_one, hc, splitK, hi, if_neg (by rw [beq_iff_eq]; omega)]; rw [show ((a.length : Int).toNat + 0) = a.length from by omega, List.take_left, show ((a.length : Int).toNat + [c].length) = (a ++ [c]).length from by simp, show a ++ c :: r = (a ++ [c]) ++ r from by simp, List.drop_left]
theorem split_last (c : UInt8) (a : List UInt8) (h : c ∉ a) : split a [c] = [a] := by
 unfold split; rw [count_one, List.count_eq_zero_of_not_mem h]; rfl
theorem ofNat_ne {n : Nat} (h : n < 10) : UInt8.ofNat (48 + n) ≠ 44 := by
 match n, h with
 | 0, _ | 1, _ | 2, _ | 3, _ | 4, _ | 5, _ | 6, _ | 7, _ | 8, _ | 9, _ => decide
theorem stamp_comma {day start : Int} (hy : (yOf day).toNat < 10000) (hm : (mOf day).toNat < 100) (hd : (dOf day).toNat < 100) (h0 : 0 <= start) (h1 : start < 1440) : (44 : UInt8) ∉ stampL day start := by
 intro h; simp only [stampL, dateL, d4, d2, List.mem_append, List.mem_cons, List.not_mem_nil, or_false] at h; have e : ∀ n : Nat, n < 10 -> (44 : UInt8) ≠ UInt8.ofNat (48 + n) := fun n hn e => ofNat_ne hn e.symm
 rcases h with ((((((h | h | h | h) | h | h) | h | h) | h) | h | h) | h | h) | h | h
 all_goals first
  | exact absurd h (by decide)
  | exact e _ (by omega) h
theorem stampsL_split (start : Int) (h0 : 0 <= start) (h1 : start < 1440) : ∀ ds : List Int, ds ≠ [] -> (∀ d ∈ ds, 0 <= d /\ d <= 36524) -> split (stampsL start ds) [44] = ds.map fun d => stampL d start
 | [], h, _ => absurd rfl h
 | [d], _, hd => by
  obtain ⟨y0, y1, m0, m1, d0, d1⟩ := date_toNat (hd d (List.mem_cons_self ..)).1 (hd d (List.mem_cons_self ..)).2; exact split_last _ _ (stamp_comma (by omega) (by omega) (by omega) h0 h1)
 | d :: e :: r, _, hd => by
  obtain ⟨y0, y1, m0, m1, d0, d1⟩ := date_toNat (hd d (List.mem_cons_self ..)).1 (hd d (List.mem_cons_self ..)).2; rw [stampsL, split_app _ _ _ (stamp_comma (by omega) (by omega) (by omega) h0 h1), stampsL_split start h0 h1 (e :: r) (by simp) (fun x hx => hd x (List.mem_cons_of_mem _ hx))]; rfl
theorem atoi_d2 : ∀ n : Nat, n < 100 -> Lib.atoi (d2 n) = some (n : Int) := by decide
set_option maxRecDepth 10000 in
theorem atoi_d4' : ∀ n : Nat, n < 100 -> Lib.atoi (d4 (2000 + n)) = some ((2000 + n : Nat) : Int) := by decide
theorem atoi_d4 {n : Nat} (h0 : 2000 <= n) (h1 : n <= 2099) : Lib.atoi (d4 n) = some (n : Int) := by
 have := atoi_d4' (n - 2000) (by omega); rwa [show 2000 + (n - 2000) = n from by omega] at this
end Tt
namespace Go.Proofs.YtageielcdebjlaaGreatDoor
theorem splitB_stamps {s : ByteArray} {start : Int} {ds : List Int} (hs : s.data.toList = Tt.stampsL start ds) (hne : ds ≠ []) (hd : ∀ d ∈ ds, 0 <= d /\ d <= 36524) (h0 : 0 <= start) (h1 : start < 1440) :
  Lib.splitB ⟨#[44]⟩ 0 (Lib.countB s ⟨#[44]⟩) s = ds.map fun d => str (Tt.stampL d start) := by
 refine map_data_inj ?_; rw [Lib.splitB_data, List.map_map]; show Lib.split s.data.toList [44] = _
 rw [hs, Tt.stampsL_split start h0 h1 ds hne hd]; rfl
end Go.Proofs.YtageielcdebjlaaGreatDoor
