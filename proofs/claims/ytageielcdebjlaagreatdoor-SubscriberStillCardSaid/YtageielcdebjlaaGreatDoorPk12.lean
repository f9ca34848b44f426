/- subscriber.told, timetableref41.kind, timetableref40.Find: their contracts. timetableref39.Same: its contract: are two series the same? timetableref40.SameEvent: its contract. timetableref40.SameEvents: its contract. timetableref41.Same and timetableref41.SameNotices: their contracts. -/
import Derived.Test.YtageielcdebjlaaGreatDoorFeedV
namespace Go.Proofs.YtageielcdebjlaaGreatDoor
open Go.RowKit

/-- What is told of an event that takes the place of another. -/
def toldV (old now : Bool) : Int := if now && old then 0 else if now then 3 else if old then 1 else 2
def kindV (old known now : Bool) : Int := if now then (if known && !old then 3 else 0) else if !known || old then 1 else 2
theorem kind_told (old now : Bool) : kindV old true now = toldV old now := by cases old <;> cases now <;> rfl
theorem kind_new (old now : Bool) : kindV old false now = toldV true now := by cases old <;> cases now <;> rfl

set_option maxHeartbeats 4000000 in
set_option maxRecDepth 100000 in
theorem told83 (o n : Ev) (p1 p2 p3 p4 : Option Addr) (n1 n2 n3 n4 c1 c2 c3 c4 : Nat) (w : World) :
    Calls Tryz.prog 83 #[evVal o (.slice p1 n1 c1) (.slice p2 n2 c2), evVal n (.slice p3 n3 c3) (.slice p4 n4 c4)] w fun e w' => e = .returned (.int .i64 (toldV o.canc n.canc)) ∧ Below w.heap.size w w' := by
  obtain ⟨u, s, oc, d, st, mi, su, lo⟩ := o
  obtain ⟨u', s', nc, d', st', mi', su', lo'⟩ := n
  unfold evVal evCells
  cases oc <;> cases nc
  all_goals
    go_enter Tryz.func83, Tryz.ntmps83
    go_wp2_with fail
    go_ret
    exact ⟨rfl, (below_box _ _).trans ((below_box _ _).mono (by simp))⟩

set_option maxHeartbeats 4000000 in
set_option maxRecDepth 100000 in
theorem kind86 (o n : Ev) (k : Bool) (p1 p2 p3 p4 : Option Addr) (n1 n2 n3 n4 c1 c2 c3 c4 : Nat) (w : World) :
    Calls Tryz.prog 86 #[evVal o (.slice p1 n1 c1) (.slice p2 n2 c2), .bool k, evVal n (.slice p3 n3 c3) (.slice p4 n4 c4)] w fun e w' => e = .returned (.int .i64 (kindV o.canc k n.canc)) ∧ Below w.heap.size w w' := by
  obtain ⟨u, s, oc, d, st, mi, su, lo⟩ := o
  obtain ⟨u', s', nc, d', st', mi', su', lo'⟩ := n
  unfold evVal evCells
  cases oc <;> cases nc <;> cases k
  all_goals
    go_enter Tryz.func86, Tryz.ntmps86
    go_wp2_with fail
    go_ret
    exact ⟨rfl, (below_box _ _).trans ((below_box _ _).mono (by simp))⟩

/-- Where an event with an identifier stands; -1: nowhere. -/
def findFrom (u : ByteArray) : List Ev → Int → Int
  | [], _ => -1
  | e :: r, k => if e.uid = u then k else findFrom u r (k + 1)

set_option maxHeartbeats 4000000 in
set_option maxRecDepth 100000 in
theorem find84 (u : ByteArray) (es : List Ev) (ao : Option Addr) (c : Nat) (B : Nat) (w : World) (hE : Evs B w ao es) (hn : es.length ≤ 4611686018427387903) :
    Calls Tryz.prog 84 #[.slice ao es.length c, .string u] w fun e w' => e = .returned (.int .i64 (findFrom u es 0)) ∧ w' = w := by
  have HE := Lib.hid hE
  clear hE
  obtain ⟨n, hne⟩ : ∃ n, n = es.length := ⟨_, rfl⟩
  rw [← hne] at hn ⊢
  have HN := Lib.hid hne
  clear hne
  go_enter Tryz.func84, Tryz.ntmps84
  go_wp2_with fail
  go_loop [5] (fun iv => ∃ k : Nat, k ≤ n ∧ iv = .int .i64 k ∧ Hid (findFrom u es 0 = findFrom u (es.drop k) k)) (fun iv => n - (intOf iv).toNat)
  case atStart => exact ⟨0, Nat.zero_le _, rfl, Lib.hid rfl⟩
  case round =>
    obtain ⟨k, hk, rfl, HF⟩ := hrel
    by_cases hlt : k < n
    · have hlti : (k : Int) < n := by omega
      have hke : k < es.length := by rw [← HN.out]; exact hlt
      rcases HE.out with h | ⟨g, o, rfl, hg, hc⟩
      · rw [h] at hke; simp at hke
      · obtain ⟨-, v, v', hv, -, -⟩ := hc k _ (List.getElem?_eq_getElem hke)
        have c0 := hv.c0
        clear hv hc
        obtain ⟨e, hee⟩ : ∃ e, e = es[k] := ⟨_, rfl⟩
        rw [← hee] at c0
        have HD := Lib.hid (show findFrom u es 0 = if e.uid = u then (k : Int) else findFrom u (es.drop (k + 1)) ((k : Int) + 1) from by rw [HF.out, List.drop_eq_getElem_cons hke, ← hee]; rfl)
        clear hee
        by_cases he : e.uid = u
        · have hb : (e.uid.toList == u.toList) = true := by rw [he]; simp
          have HX := Lib.hid (show findFrom u es 0 = (k : Int) from by rw [HD.out, if_pos he])
          clear he
          go_wp2_with fail
          go_ret
          exact ⟨by rw [HX.out]; rfl, rfl⟩
        · have hb : (e.uid.toList == u.toList) = false := by
            rw [beq_eq_false_iff_ne]; intro h; rw [Lib.toList_data, Lib.toList_data] at h; exact he (ByteArray.ext (Array.toList_inj.mp h))
          have HX := Lib.hid (show findFrom u es 0 = findFrom u (es.drop (k + 1)) ((k + 1 : Nat) : Int) from by rw [HD.out, if_neg he]; rfl)
          clear he
          go_wp2_with fail
          go_round
          case rel => exact ⟨k + 1, by omega, by go_num, HX⟩
          case measure => simp [intOf]; omega
    · have hlti : ¬ (k : Int) < n := by omega
      have HX := Lib.hid (show findFrom u es 0 = -1 from by rw [HF.out, List.drop_eq_nil_of_le (by rw [← HN.out]; omega)]; rfl)
      go_wp2_with fail
      go_ret
      exact ⟨by rw [HX.out]; rfl, rfl⟩
end Go.Proofs.YtageielcdebjlaaGreatDoor
namespace Go.Proofs.YtageielcdebjlaaGreatDoor
open Go.RowKit

theorem list_parts {xs ys : List Int} {n : Nat} (hx : xs.length = n) (hy : ys.length = n) (h : ∀ j, j < n → xs[j]? = ys[j]?) : xs = ys := by
  apply List.ext_getElem?
  intro j
  rcases Nat.lt_or_ge j n with hj | hj
  · exact h j hj
  · rw [List.getElem?_eq_none (by omega), List.getElem?_eq_none (by omega)]

set_option maxHeartbeats 4000000 in
set_option maxRecDepth 100000 in
theorem sameser142 (s t : Tt.Ser) (B : Nat) (w : World) (p1 p2 p3 p4 : Option Addr) (c1 c2 c3 c4 : Nat) (hB : B ≤ w.heap.size) (hI1 : Ints B w p1 s.ex) (hI2 : Ints B w p2 s.xt) (hI3 : Ints B w p3 t.ex) (hI4 : Ints B w p4 t.xt) (hn1 : s.ex.length ≤ 4611686018427387903) (hn2 : s.xt.length ≤ 4611686018427387903) :
    Calls Tryz.prog 142 #[serVal s (.slice p1 s.ex.length c1) (.slice p2 s.xt.length c2), serVal t (.slice p3 t.ex.length c3) (.slice p4 t.xt.length c4)] w fun e w' => e = .returned (.bool (decide (s = t))) ∧ Below w.heap.size w w' := by
  obtain ⟨f, l, e, m, ex, xt⟩ := s
  obtain ⟨f', l', e', m', ex', xt'⟩ := t
  simp only at *
  have HI1 := Lib.hid hI1
  have HI2 := Lib.hid hI2
  have HI3 := Lib.hid hI3
  have HI4 := Lib.hid hI4
  clear hI1 hI2 hI3 hI4
  unfold serVal
  by_cases hq : f = f' ∧ l = l' ∧ e = e' ∧ m = m' ∧ ex.length = ex'.length ∧ xt.length = xt'.length
  · obtain ⟨rfl, rfl, rfl, rfl, hl1, hl2⟩ := hq
    rw [← hl1, ← hl2]
    obtain ⟨n, hn⟩ : ∃ n, n = ex.length := ⟨_, rfl⟩
    obtain ⟨o, ho⟩ : ∃ o, o = xt.length := ⟨_, rfl⟩
    rw [← hn] at hn1 hl1 ⊢
    rw [← ho] at hn2 hl2 ⊢
    have HN := Lib.hid hn
    have HO := Lib.hid ho
    have HL1 := Lib.hid hl1
    have HL2 := Lib.hid hl2
    clear hn ho hl1 hl2
    have S0 : SerAt w.heap.size ⟨f, l, e, m, ex, xt⟩ (.slice p1 n c1) (.slice p2 o c2) (w.alloc (.cells #[.int .i64 f, .int .i64 l, .int .i64 e, .int .i64 m, .slice p1 n c1, .slice p2 o c2] 80)) := heap_alloc_new w _
    have T0 : SerAt (w.heap.size + 1) ⟨f, l, e, m, ex', xt'⟩ (.slice p3 n c3) (.slice p4 o c4) ((w.alloc (.cells #[.int .i64 f, .int .i64 l, .int .i64 e, .int .i64 m, .slice p1 n c1, .slice p2 o c2] 80)).alloc (.cells #[.int .i64 f, .int .i64 l, .int .i64 e, .int .i64 m, .slice p3 n c3, .slice p4 o c4] 80)) := by
      have := heap_alloc_new (w.alloc (.cells #[.int .i64 f, .int .i64 l, .int .i64 e, .int .i64 m, .slice p1 n c1, .slice p2 o c2] 80)) (.cells #[.int .i64 f, .int .i64 l, .int .i64 e, .int .i64 m, .slice p3 n c3, .slice p4 o c4] 80)
      simpa [SerAt] using this
    have HB := Lib.hid ((below_box w (.cells #[.int .i64 f, .int .i64 l, .int .i64 e, .int .i64 m, .slice p1 n c1, .slice p2 o c2] 80)).alloc (by simp) (.cells #[.int .i64 f, .int .i64 l, .int .i64 e, .int .i64 m, .slice p3 n c3, .slice p4 o c4] 80))
    have HS := Lib.hid (S0.block (w' := (w.alloc (.cells #[.int .i64 f, .int .i64 l, .int .i64 e, .int .i64 m, .slice p1 n c1, .slice p2 o c2] 80)).alloc (.cells #[.int .i64 f, .int .i64 l, .int .i64 e, .int .i64 m, .slice p3 n c3, .slice p4 o c4] 80)) ((below_box _ _).block _ (by simp)))
    have HT := Lib.hid T0
    clear S0 T0
    go_enter Tryz.func142, Tryz.ntmps142
    go_wp2_with fail
    go_loopw [5] (fun iv wr => ∃ k : Nat, iv = .int .i64 k ∧ k ≤ n ∧ Hid (Below w.heap.size w wr) ∧ Hid (SerAt w.heap.size ⟨f, l, e, m, ex, xt⟩ (.slice p1 n c1) (.slice p2 o c2) wr) ∧ Hid (SerAt (w.heap.size + 1) ⟨f, l, e, m, ex', xt'⟩ (.slice p3 n c3) (.slice p4 o c4) wr) ∧ Hid (∀ j, j < k → ex[j]? = ex'[j]?)) (fun iv _ => n - (intOf iv).toNat)
    case atStart => exact ⟨0, rfl, Nat.zero_le _, HB, HS, HT, Lib.hid (fun j h => absurd h (Nat.not_lt_zero _))⟩
    case round =>
      obtain ⟨k, rfl, hk, HBr, HA, HA2, HE⟩ := hrel
      obtain ⟨-, -, -, -, e4, e5⟩ := HA.out.cells
      obtain ⟨-, -, -, -, f4, f5⟩ := HA2.out.cells
      by_cases hlt : k < n
      · have hx : k < ex.length := by rw [← HN.out]; exact hlt
        have hy : k < ex'.length := by rw [← HL1.out]; exact hlt
        obtain ⟨a, rfl, ha, hca⟩ := HI1.out k _ (List.getElem?_eq_getElem hx)
        obtain ⟨a', rfl, ha', hcb⟩ := HI3.out k _ (List.getElem?_eq_getElem hy)
        obtain ⟨x, hxe⟩ : ∃ x, x = ex[k] := ⟨_, rfl⟩
        obtain ⟨y, hye⟩ : ∃ y, y = ex'[k] := ⟨_, rfl⟩
        rw [← hxe] at hca
        rw [← hye] at hcb
        have HXE := Lib.hid hxe
        have HYE := Lib.hid hye
        clear hxe hye
        have hca := (HBr.out.cell (p := a.add k) (by rw [addr_add_block]; omega)).trans hca
        have hcb := (HBr.out.cell (p := a'.add k) (by rw [addr_add_block]; omega)).trans hcb
        have hlt2 : (k : Int) < n := by omega
        by_cases he : x = y
        · have hb : (x != y) = false := by simp [he]
          have HS2 := Lib.hid (show ∀ j, j < k + 1 → ex[j]? = ex'[j]? from by
            intro j hj
            rcases Nat.lt_or_ge j k with h | h
            · exact HE.out j h
            · obtain rfl : j = k := by omega
              rw [List.getElem?_eq_getElem hx, List.getElem?_eq_getElem hy, ← HXE.out, ← HYE.out, he])
          clear he
          go_wp2_with fail
          go_quiet (fail)
          go_wp2_with fail
          go_roundw
          case rel => exact ⟨k + 1, by go_num, by omega, Lib.hid (below_drew HBr.out), Lib.hid (HA.out.block (by simp)), Lib.hid (HA2.out.block (by simp)), HS2⟩
          case measure => simp [intOf]; omega
        · have hb : (x != y) = true := by simp [he]
          have HD := Lib.hid (show decide ((⟨f, l, e, m, ex, xt⟩ : Tt.Ser) = ⟨f, l, e, m, ex', xt'⟩) = false from by
            rw [decide_eq_false_iff_not]
            intro h
            injection h with a1 a2 a3 a4 a5 a6
            exact he (by rw [HXE.out, HYE.out]; simp [a5]))
          clear he
          go_wp2_with fail
          go_quiet (fail)
          go_wp2_with fail
          go_ret
          exact ⟨ret_bool HD.out.symm, below_drew HBr.out⟩
      · have hlt2 : ¬ (k : Int) < n := by omega
        have HX := Lib.hid (show ex = ex' from list_parts HN.out.symm HL1.out.symm (fun j hj => HE.out j (by omega)))
        clear HE hk hlt
        go_wp2_with fail
        go_loopw [6] (fun iv wq => ∃ k : Nat, iv = .int .i64 k ∧ k ≤ o ∧ Hid (Below w.heap.size w wq) ∧ Hid (SerAt w.heap.size ⟨f, l, e, m, ex, xt⟩ (.slice p1 n c1) (.slice p2 o c2) wq) ∧ Hid (SerAt (w.heap.size + 1) ⟨f, l, e, m, ex', xt'⟩ (.slice p3 n c3) (.slice p4 o c4) wq) ∧ Hid (∀ j, j < k → xt[j]? = xt'[j]?)) (fun iv _ => o - (intOf iv).toNat)
        case atStart => exact ⟨0, rfl, Nat.zero_le _, HBr, HA, HA2, Lib.hid (fun j h => absurd h (Nat.not_lt_zero _))⟩
        case round =>
          clear e4 e5 f4 f5
          obtain ⟨k, rfl, hk, HBr, HA, HA2, HE⟩ := hrel
          obtain ⟨-, -, -, -, e4, e5⟩ := HA.out.cells
          obtain ⟨-, -, -, -, f4, f5⟩ := HA2.out.cells
          by_cases hlt : k < o
          · have hx : k < xt.length := by rw [← HO.out]; exact hlt
            have hy : k < xt'.length := by rw [← HL2.out]; exact hlt
            obtain ⟨a, rfl, ha, hca⟩ := HI2.out k _ (List.getElem?_eq_getElem hx)
            obtain ⟨a', rfl, ha', hcb⟩ := HI4.out k _ (List.getElem?_eq_getElem hy)
            obtain ⟨x, hxe⟩ : ∃ x, x = xt[k] := ⟨_, rfl⟩
            obtain ⟨y, hye⟩ : ∃ y, y = xt'[k] := ⟨_, rfl⟩
            rw [← hxe] at hca
            rw [← hye] at hcb
            have HXE := Lib.hid hxe
            have HYE := Lib.hid hye
            clear hxe hye
            have hca := (HBr.out.cell (p := a.add k) (by rw [addr_add_block]; omega)).trans hca
            have hcb := (HBr.out.cell (p := a'.add k) (by rw [addr_add_block]; omega)).trans hcb
            have hlt2 : (k : Int) < o := by omega
            by_cases he : x = y
            · have hb : (x != y) = false := by simp [he]
              have HS2 := Lib.hid (show ∀ j, j < k + 1 → xt[j]? = xt'[j]? from by
                intro j hj
                rcases Nat.lt_or_ge j k with h | h
                · exact HE.out j h
                · obtain rfl : j = k := by omega
                  rw [List.getElem?_eq_getElem hx, List.getElem?_eq_getElem hy, ← HXE.out, ← HYE.out, he])
              clear he
              go_wp2_with fail
              go_quiet (fail)
              go_wp2_with fail
              go_roundw
              case rel => exact ⟨k + 1, by go_num, by omega, Lib.hid (below_drew HBr.out), Lib.hid (HA.out.block (by simp)), Lib.hid (HA2.out.block (by simp)), HS2⟩
              case measure => simp [intOf]; omega
            · have hb : (x != y) = true := by simp [he]
              have HD := Lib.hid (show decide ((⟨f, l, e, m, ex, xt⟩ : Tt.Ser) = ⟨f, l, e, m, ex', xt'⟩) = false from by
                rw [decide_eq_false_iff_not]
                intro h
                injection h with a1 a2 a3 a4 a5 a6
                exact he (by rw [HXE.out, HYE.out]; simp [a6]))
              clear he
              go_wp2_with fail
              go_quiet (fail)
              go_wp2_with fail
              go_ret
              exact ⟨ret_bool HD.out.symm, below_drew HBr.out⟩
          · have hlt2 : ¬ (k : Int) < o := by omega
            have HY := Lib.hid (show xt = xt' from list_parts HO.out.symm HL2.out.symm (fun j hj => HE.out j (by omega)))
            have HD := Lib.hid (show decide ((⟨f, l, e, m, ex, xt⟩ : Tt.Ser) = ⟨f, l, e, m, ex', xt'⟩) = true from by rw [HX.out, HY.out]; simp)
            go_wp2_with fail
            go_ret
            exact ⟨ret_bool (by simpa using HD.out.symm), HBr.out⟩
  · have HD := Lib.hid (show decide ((⟨f, l, e, m, ex, xt⟩ : Tt.Ser) = ⟨f', l', e', m', ex', xt'⟩) = false from by
      rw [decide_eq_false_iff_not]
      intro h
      injection h with a1 a2 a3 a4 a5 a6
      exact hq ⟨a1, a2, a3, a4, by rw [a5], by rw [a6]⟩)
    go_enter Tryz.func142, Tryz.ntmps142
    go_wp2_with fail
    all_goals
      go_ret
      exact ⟨ret_bool HD.out.symm, (below_box _ _).trans ((below_box _ _).mono (by simp))⟩
end Go.Proofs.YtageielcdebjlaaGreatDoor
namespace Go.Proofs.YtageielcdebjlaaGreatDoor
open Go.RowKit

deriving instance DecidableEq for Ev

theorem text_ne {x y : ByteArray} (he : ¬ x = y) : (x.toList == y.toList) = false := by
  rw [beq_eq_false_iff_ne]; intro h; rw [Lib.toList_data, Lib.toList_data] at h; exact he (ByteArray.ext (Array.toList_inj.mp h))
theorem ev_ne {a b : Ev} (h : ¬ a = b) : decide (a = b) = false := by simpa using h

set_option maxHeartbeats 8000000 in
set_option maxRecDepth 100000 in
theorem sameev71 (a b : Ev) (B : Nat) (w : World) (p1 p2 p3 p4 : Option Addr) (c1 c2 c3 c4 : Nat) (hB : B ≤ w.heap.size) (hI1 : Ints B w p1 a.days.ex) (hI2 : Ints B w p2 a.days.xt) (hI3 : Ints B w p3 b.days.ex) (hI4 : Ints B w p4 b.days.xt) (hn1 : a.days.ex.length ≤ 4611686018427387903) (hn2 : a.days.xt.length ≤ 4611686018427387903) :
    Calls Tryz.prog 71 #[evVal a (.slice p1 a.days.ex.length c1) (.slice p2 a.days.xt.length c2), evVal b (.slice p3 b.days.ex.length c3) (.slice p4 b.days.xt.length c4)] w fun e w' => e = .returned (.bool (decide (a = b))) ∧ Below w.heap.size w w' := by
  have hbx := (below_box w (.cells (evCells a (.slice p1 a.days.ex.length c1) (.slice p2 a.days.xt.length c2)) 82)).alloc (by simp) (.cells (evCells b (.slice p3 b.days.ex.length c3) (.slice p4 b.days.xt.length c4)) 82)
  have S0 : EvBox w.heap.size a (.slice p1 a.days.ex.length c1) (.slice p2 a.days.xt.length c2) (w.alloc (.cells (evCells a (.slice p1 a.days.ex.length c1) (.slice p2 a.days.xt.length c2)) 82)) := heap_alloc_new w _
  have T0 : EvBox (w.heap.size + 1) b (.slice p3 b.days.ex.length c3) (.slice p4 b.days.xt.length c4) ((w.alloc (.cells (evCells a (.slice p1 a.days.ex.length c1) (.slice p2 a.days.xt.length c2)) 82)).alloc (.cells (evCells b (.slice p3 b.days.ex.length c3) (.slice p4 b.days.xt.length c4)) 82)) := by
    have := heap_alloc_new (w.alloc (.cells (evCells a (.slice p1 a.days.ex.length c1) (.slice p2 a.days.xt.length c2)) 82)) (.cells (evCells b (.slice p3 b.days.ex.length c3) (.slice p4 b.days.xt.length c4)) 82)
    simpa [EvBox] using this
  have HS := Lib.hid (S0.block (w' := (w.alloc (.cells (evCells a (.slice p1 a.days.ex.length c1) (.slice p2 a.days.xt.length c2)) 82)).alloc (.cells (evCells b (.slice p3 b.days.ex.length c3) (.slice p4 b.days.xt.length c4)) 82)) ((below_box _ _).block _ (by simp)))
  have HT := Lib.hid T0
  have HB := Lib.hid hbx
  have HI1 := Lib.hid (hI1.below (hbx.mono hB))
  have HI2 := Lib.hid (hI2.below (hbx.mono hB))
  have HI3 := Lib.hid (hI3.below (hbx.mono hB))
  have HI4 := Lib.hid (hI4.below (hbx.mono hB))
  clear hI1 hI2 hI3 hI4 S0 T0 hbx
  obtain ⟨u, s, oc, d, st, mi, su, lo⟩ := a
  obtain ⟨u', s', nc, d', st', mi', su', lo'⟩ := b
  unfold evCells at *
  unfold evVal evCells
  simp only at *
  by_cases h1 : u = u'
  · subst h1
    by_cases h2 : s = s'
    · subst h2
      by_cases h3 : oc = nc
      · subst h3
        have hcc : (oc == oc) = true := by simp
        go_enter Tryz.func71, Tryz.ntmps71
        go_wp2_with fail
        refine (sameser142 d d' B _ p1 p2 p3 p4 c1 c2 c3 c4 (by simp; omega) HI1.out HI2.out HI3.out HI4.out hn1 hn2).mono ?_
        rintro e w1 ⟨rfl, hb1⟩
        have HA1 := Lib.hid (HS.out.block (hb1.block _ (by simp; omega)))
        have HA2 := Lib.hid (HT.out.block (hb1.block _ (by simp)))
        have HB1 := Lib.hid (HB.out.trans (hb1.mono (by simp; omega)))
        clear hb1
        obtain ⟨-, -, -, -, -, -, -, -, -, c9, c10, c11, c12⟩ := HA1.out.c
        obtain ⟨-, -, -, -, -, -, -, -, -, d9, d10, d11, d12⟩ := HA2.out.c
        by_cases h4 : d = d'
        · subst h4
          have HD4 := Lib.hid (show decide (d = d) = true from by simp)
          rw [HD4.out]
          by_cases h5 : st = st'
          · subst h5
            by_cases h6 : mi = mi'
            · subst h6
              by_cases h7 : su = su'
              · subst h7
                by_cases h8 : lo = lo'
                · subst h8
                  have HD := Lib.hid (show decide ((⟨u, s, oc, d, st, mi, su, lo⟩ : Ev) = ⟨u, s, oc, d, st, mi, su, lo⟩) = true from by simp)
                  go_wp2_with fail
                  go_ret
                  exact ⟨ret_bool (by simp), HB1.out⟩
                · have HD := Lib.hid (ev_ne (a := ⟨u, s, oc, d, st, mi, su, lo⟩) (b := ⟨u, s, oc, d, st, mi, su, lo'⟩) (fun h => by injection h; exact h8 (by assumption)))
                  have hb := text_ne h8
                  clear h8
                  go_wp2_with fail
                  go_ret
                  exact ⟨ret_bool HD.out.symm, HB1.out⟩
              · have HD := Lib.hid (ev_ne (a := ⟨u, s, oc, d, st, mi, su, lo⟩) (b := ⟨u, s, oc, d, st, mi, su', lo'⟩) (fun h => by injection h; exact h7 (by assumption)))
                have hb := text_ne h7
                clear h7
                go_wp2_with fail
                go_ret
                exact ⟨ret_bool HD.out.symm, HB1.out⟩
            · have HD := Lib.hid (ev_ne (a := ⟨u, s, oc, d, st, mi, su, lo⟩) (b := ⟨u, s, oc, d, st, mi', su', lo'⟩) (fun h => by injection h; exact h6 (by assumption)))
              have hb : (mi == mi') = false := by simpa using h6
              go_wp2_with fail
              go_ret
              exact ⟨ret_bool HD.out.symm, HB1.out⟩
          · have HD := Lib.hid (ev_ne (a := ⟨u, s, oc, d, st, mi, su, lo⟩) (b := ⟨u, s, oc, d, st', mi', su', lo'⟩) (fun h => by injection h; exact h5 (by assumption)))
            have hb : (st == st') = false := by simpa using h5
            go_wp2_with fail
            go_ret
            exact ⟨ret_bool HD.out.symm, HB1.out⟩
        · have HD := Lib.hid (ev_ne (a := ⟨u, s, oc, d, st, mi, su, lo⟩) (b := ⟨u, s, oc, d', st', mi', su', lo'⟩) (fun h => by injection h; exact h4 (by assumption)))
          have HD4 := Lib.hid (show decide (d = d') = false from by simpa using h4)
          rw [HD4.out]
          clear h4
          go_wp2_with fail
          go_ret
          exact ⟨ret_bool HD.out.symm, HB1.out⟩
      · have HD := Lib.hid (ev_ne (a := ⟨u, s, oc, d, st, mi, su, lo⟩) (b := ⟨u, s, nc, d', st', mi', su', lo'⟩) (fun h => by injection h; exact h3 (by assumption)))
        have hb : (oc == nc) = false := by simpa using h3
        go_enter Tryz.func71, Tryz.ntmps71
        go_wp2_with fail
        go_ret
        exact ⟨ret_bool HD.out.symm, HB.out⟩
    · have HD := Lib.hid (ev_ne (a := ⟨u, s, oc, d, st, mi, su, lo⟩) (b := ⟨u, s', nc, d', st', mi', su', lo'⟩) (fun h => by injection h; exact h2 (by assumption)))
      have hb : (s == s') = false := by simpa using h2
      go_enter Tryz.func71, Tryz.ntmps71
      go_wp2_with fail
      go_ret
      exact ⟨ret_bool HD.out.symm, HB.out⟩
  · have HD := Lib.hid (ev_ne (a := ⟨u, s, oc, d, st, mi, su, lo⟩) (b := ⟨u', s', nc, d', st', mi', su', lo'⟩) (fun h => by injection h; exact h1 (by assumption)))
    have hb := text_ne h1
    clear h1
    go_enter Tryz.func71, Tryz.ntmps71
    go_wp2_with fail
    go_ret
    exact ⟨ret_bool HD.out.symm, HB.out⟩
end Go.Proofs.YtageielcdebjlaaGreatDoor
namespace Go.Proofs.YtageielcdebjlaaGreatDoor
open Go.RowKit

theorem list_parts2 {α : Type} {xs ys : List α} {n : Nat} (hx : xs.length = n) (hy : ys.length = n) (h : ∀ j, j < n → xs[j]? = ys[j]?) : xs = ys := by
  apply List.ext_getElem?
  intro j
  rcases Nat.lt_or_ge j n with hj | hj
  · exact h j hj
  · rw [List.getElem?_eq_none (by omega), List.getElem?_eq_none (by omega)]

set_option maxHeartbeats 8000000 in
set_option maxRecDepth 100000 in
theorem sameevs65 (xs ys : List Ev) (ao bo : Option Addr) (c d : Nat) (B : Nat) (w : World) (hB : B ≤ w.heap.size) (hX : Evs B w ao xs) (hY : Evs B w bo ys) (hn : xs.length ≤ 4611686018427387903) :
    Calls Tryz.prog 65 #[.slice ao xs.length c, .slice bo ys.length d] w fun e w' => e = .returned (.bool (decide (xs = ys))) ∧ Below w.heap.size w w' := by
  by_cases hl : xs.length = ys.length
  · have HX := Lib.hid hX
    have HY := Lib.hid hY
    clear hX hY
    obtain ⟨n, hn1⟩ : ∃ n, n = xs.length := ⟨_, rfl⟩
    rw [← hl]
    rw [← hn1] at hn hl ⊢
    have HN := Lib.hid hn1
    have HL := Lib.hid hl
    clear hn1 hl
    go_enter Tryz.func65, Tryz.ntmps65
    go_wp2_with fail
    go_loopw [5] (fun iv wr => ∃ k : Nat, k ≤ n ∧ iv = .int .i64 k ∧ Hid (Below w.heap.size w wr) ∧ Hid (∀ j, j < k → xs[j]? = ys[j]?)) (fun iv _ => n - (intOf iv).toNat)
    case atStart => exact ⟨0, Nat.zero_le _, rfl, Lib.hid (Below.refl _ _), Lib.hid (fun j h => absurd h (Nat.not_lt_zero _))⟩
    case round =>
      obtain ⟨k, hk, rfl, HBr, HE⟩ := hrel
      by_cases hlt : k < n
      · have hx : k < xs.length := by rw [← HN.out]; exact hlt
        have hy : k < ys.length := by rw [← HL.out]; exact hlt
        have hlti : (k : Int) < n := by omega
        rcases HX.out with h | ⟨g, o, rfl, hg, hcx⟩
        · rw [h] at hx; simp at hx
        rcases HY.out with h | ⟨g', o', rfl, hg', hcy⟩
        · rw [h] at hy; simp at hy
        obtain ⟨hEa, _, _, hCa, ⟨ax, cx, rfl, hI1⟩, ⟨ay, cy, rfl, hI2⟩⟩ := hcx k _ (List.getElem?_eq_getElem hx)
        obtain ⟨hEb, _, _, hCb, ⟨bx, dx, rfl, hI3⟩, ⟨bY, dy, rfl, hI4⟩⟩ := hcy k _ (List.getElem?_eq_getElem hy)
        obtain ⟨x, hxe⟩ : ∃ x, x = xs[k] := ⟨_, rfl⟩
        obtain ⟨y, hye⟩ : ∃ y, y = ys[k] := ⟨_, rfl⟩
        rw [← hxe] at hEa hCa hI1 hI2
        rw [← hye] at hEb hCb hI3 hI4
        have HXE := Lib.hid hxe
        have HYE := Lib.hid hye
        have HI1 := Lib.hid (hI1.below (HBr.out.mono hB))
        have HI2 := Lib.hid (hI2.below (HBr.out.mono hB))
        have HI3 := Lib.hid (hI3.below (HBr.out.mono hB))
        have HI4 := Lib.hid (hI4.below (HBr.out.mono hB))
        have HEa := Lib.hid hEa
        have hsz := HBr.out.size
        have hCa' := hCa.below hg (HBr.out.mono hB)
        have hCb' := hCb.below hg' (HBr.out.mono hB)
        clear hxe hye hcx hcy hEa hEb hCa hCb hI1 hI2 hI3 hI4
        obtain ⟨c0, c1, c2, c3, c4, c5, c6, c7, c8, c9, c10, c11, c12⟩ := hCa'
        obtain ⟨d0, d1, d2, d3, d4, d5, d6, d7, d8, d9, d10, d11, d12⟩ := hCb'
        go_wp2_with fail
        go_still_tail 8, (by kernel_rfl)
        change wpList _ _ _ _ _ wr.drew
        go_wp2_with fail
        refine (sameev71 x y B _ ax ay bx bY cx cy dx dy (Nat.le_trans hB HBr.out.drew.size) HI1.out HI2.out HI3.out HI4.out HEa.out.ex HEa.out.xt).mono ?_
        rintro z w1 ⟨rfl, hb1⟩
        have HB1 := Lib.hid (below_then HBr.out.drew hb1)
        clear hb1
        by_cases he : x = y
        · have HS2 := Lib.hid (show ∀ j, j < k + 1 → xs[j]? = ys[j]? from by
            intro j hj
            rcases Nat.lt_or_ge j k with h | h
            · exact HE.out j h
            · obtain rfl : j = k := by omega
              rw [List.getElem?_eq_getElem hx, List.getElem?_eq_getElem hy, ← HXE.out, ← HYE.out, he])
          have HD := Lib.hid (show decide (x = y) = true from by simpa using he)
          rw [HD.out]
          clear he
          go_wp2_with fail
          go_roundw
          case rel => exact ⟨k + 1, by omega, by go_num, HB1, HS2⟩
          case measure => simp [intOf]; omega
        · have HD := Lib.hid (show decide (x = y) = false from by simpa using he)
          have HR := Lib.hid (show decide (xs = ys) = false from by
            rw [decide_eq_false_iff_not]
            intro e
            exact he (by rw [HXE.out, HYE.out]; simp [e]))
          rw [HD.out]
          clear he
          go_wp2_with fail
          go_ret
          exact ⟨ret_bool HR.out.symm, HB1.out⟩
      · have hlti : ¬ (k : Int) < n := by omega
        have HD := Lib.hid (show decide (xs = ys) = true from by
          rw [decide_eq_true_iff]
          exact list_parts2 HN.out.symm HL.out.symm (fun j hj => HE.out j (by omega)))
        go_wp2_with fail
        go_ret
        exact ⟨ret_bool HD.out.symm, HBr.out⟩
  · have HD := Lib.hid (show decide (xs = ys) = false from by
      rw [decide_eq_false_iff_not]
      intro e
      exact hl (by rw [e]))
    have hb : ((xs.length : Int) != ys.length) = true := by simp; omega
    go_enter Tryz.func65, Tryz.ntmps65
    go_wp2_with fail
    go_ret
    exact ⟨ret_bool HD.out.symm, Below.refl _ _⟩
end Go.Proofs.YtageielcdebjlaaGreatDoor
namespace Go.Proofs.YtageielcdebjlaaGreatDoor
open Go.RowKit

set_option maxHeartbeats 8000000 in
set_option maxRecDepth 100000 in
theorem samerd28 (x y x' y' : Int) (xs ys : List Ev) (ao bo : Option Addr) (c d : Nat) (B : Nat) (w : World) (hB : B ≤ w.heap.size) (hX : Evs B w ao xs) (hY : Evs B w bo ys) (hn : xs.length ≤ 4611686018427387903) :
    Calls Tryz.prog 28 #[.agg #[.int .i64 x, .int .i64 y, .slice ao xs.length c], .agg #[.int .i64 x', .int .i64 y', .slice bo ys.length d]] w fun e w' => e = .returned (.bool (decide (x = x' ∧ y = y' ∧ xs = ys))) ∧ Below w.heap.size w w' := by
  have hbx := (below_box w (.cells #[.int .i64 x, .int .i64 y, .slice ao xs.length c] 24)).alloc (by simp) (.cells #[.int .i64 x', .int .i64 y', .slice bo ys.length d] 24)
  have HB := Lib.hid hbx
  have HX := Lib.hid (hX.below (hbx.mono hB))
  have HY := Lib.hid (hY.below (hbx.mono hB))
  clear hX hY hbx
  by_cases h1 : x = x'
  · subst h1
    by_cases h2 : y = y'
    · subst h2
      go_enter Tryz.func28, Tryz.ntmps28
      go_wp2_with fail
      refine (sameevs65 xs ys ao bo c d B _ (by simp; omega) HX.out HY.out hn).mono ?_
      rintro e w1 ⟨rfl, hb1⟩
      have HB1 := Lib.hid (HB.out.trans (hb1.mono (by simp; omega)))
      clear hb1
      go_wp2_with fail
      go_ret
      exact ⟨ret_bool (by simp), HB1.out⟩
    · have hb : (y == y') = false := by simpa using h2
      have HD := Lib.hid (show decide (x = x ∧ y = y' ∧ xs = ys) = false from by simp [h2])
      go_enter Tryz.func28, Tryz.ntmps28
      go_wp2_with fail
      go_ret
      exact ⟨ret_bool (by first | rfl | exact HD.out.symm), HB.out⟩
  · have hb : (x == x') = false := by simpa using h1
    have HD := Lib.hid (show decide (x = x' ∧ y = y' ∧ xs = ys) = false from by simp [h1])
    go_enter Tryz.func28, Tryz.ntmps28
    go_wp2_with fail
    go_ret
    exact ⟨ret_bool HD.out.symm, HB.out⟩

/-- A notice: its kind, the event's identifier and number. -/
structure Nt where
  kind : Int
  uid : ByteArray
  seq : Int
  deriving DecidableEq

/-- A slice of notices, in blocks below B. -/
def Nts (B : Nat) (w : World) (ao : Option Addr) (ns : List Nt) : Prop := ns = [] ∨ ∃ b o, ao = some ⟨b, o, none⟩ ∧ b < B ∧ ∀ (j : Nat) (n : Nt), ns[j]? = some n → w.cell? ⟨b, o + j * 3, none⟩ = some (.int .i64 n.kind) ∧ w.cell? ⟨b, o + j * 3 + 1, none⟩ = some (.string n.uid) ∧ w.cell? ⟨b, o + j * 3 + 2, none⟩ = some (.int .i64 n.seq)

set_option maxHeartbeats 8000000 in
set_option maxRecDepth 100000 in
theorem saments29 (xs ys : List Nt) (ao bo : Option Addr) (c d : Nat) (B : Nat) (w : World) (hX : Nts B w ao xs) (hY : Nts B w bo ys) (hn : xs.length ≤ 4611686018427387903) :
    Calls Tryz.prog 29 #[.slice ao xs.length c, .slice bo ys.length d] w fun e w' => e = .returned (.bool (decide (xs = ys))) ∧ Below w.heap.size w w' := by
  by_cases hl : xs.length = ys.length
  · have HX := Lib.hid hX
    have HY := Lib.hid hY
    clear hX hY
    obtain ⟨n, hn1⟩ : ∃ n, n = xs.length := ⟨_, rfl⟩
    rw [← hl]
    rw [← hn1] at hn hl ⊢
    have HN := Lib.hid hn1
    have HL := Lib.hid hl
    clear hn1 hl
    go_enter Tryz.func29, Tryz.ntmps29
    go_wp2_with fail
    go_loopw [5] (fun iv wr => ∃ k : Nat, k ≤ n ∧ iv = .int .i64 k ∧ (∃ q, wr = w.drewN q) ∧ Hid (∀ j, j < k → xs[j]? = ys[j]?)) (fun iv _ => n - (intOf iv).toNat)
    case atStart => exact ⟨0, Nat.zero_le _, rfl, ⟨0, rfl⟩, Lib.hid (fun j h => absurd h (Nat.not_lt_zero _))⟩
    case round =>
      obtain ⟨k, hk, rfl, ⟨q, hq⟩, HE⟩ := hrel
      subst hq
      by_cases hlt : k < n
      · have hx : k < xs.length := by rw [← HN.out]; exact hlt
        have hy : k < ys.length := by rw [← HL.out]; exact hlt
        have hlti : (k : Int) < n := by omega
        rcases HX.out with h | ⟨g, o, rfl, hg, hcx⟩
        · rw [h] at hx; simp at hx
        rcases HY.out with h | ⟨g', o', rfl, hg', hcy⟩
        · rw [h] at hy; simp at hy
        obtain ⟨c0, c1, c2⟩ := hcx k _ (List.getElem?_eq_getElem hx)
        obtain ⟨d0, d1, d2⟩ := hcy k _ (List.getElem?_eq_getElem hy)
        obtain ⟨x, hxe⟩ : ∃ x, x = xs[k] := ⟨_, rfl⟩
        obtain ⟨y, hye⟩ : ∃ y, y = ys[k] := ⟨_, rfl⟩
        rw [← hxe] at c0 c1 c2
        rw [← hye] at d0 d1 d2
        have HXE := Lib.hid hxe
        have HYE := Lib.hid hye
        clear hxe hye hcx hcy
        obtain ⟨x0, x1, x2⟩ := x
        obtain ⟨y0, y1, y2⟩ := y
        simp only at c0 c1 c2 d0 d1 d2
        by_cases he : x0 = y0 ∧ x1 = y1 ∧ x2 = y2
        · obtain ⟨rfl, rfl, rfl⟩ := he
          have HS2 := Lib.hid (show ∀ j, j < k + 1 → xs[j]? = ys[j]? from by
            intro j hj
            rcases Nat.lt_or_ge j k with h | h
            · exact HE.out j h
            · obtain rfl : j = k := by omega
              rw [List.getElem?_eq_getElem hx, List.getElem?_eq_getElem hy, ← HXE.out, ← HYE.out])
          go_wp2_with fail
          go_quiet (fail)
          go_wp2_with fail
          go_roundw
          case rel => exact ⟨k + 1, by omega, by go_num, ⟨_, rfl⟩, HS2⟩
          case measure => simp [intOf]; omega
        · have HR := Lib.hid (show decide (xs = ys) = false from by
            rw [decide_eq_false_iff_not]
            intro e
            have : (⟨x0, x1, x2⟩ : Nt) = ⟨y0, y1, y2⟩ := by rw [HXE.out, HYE.out]; simp [e]
            injection this with a1 a2 a3
            exact he ⟨a1, a2, a3⟩)
          by_cases e0 : x0 = y0
          · subst e0
            by_cases e1 : x1 = y1
            · subst e1
              have e2 : ¬ x2 = y2 := fun h => he ⟨rfl, rfl, h⟩
              have hb : (x2 == y2) = false := by simpa using e2
              clear he
              go_wp2_with fail
              go_quiet (fail)
              go_wp2_with fail
              go_ret
              exact ⟨ret_bool HR.out.symm, below_drew (below_drew (Below.refl _ _))⟩
            · have hb := text_ne e1
              clear he e1
              go_wp2_with fail
              go_quiet (fail)
              go_wp2_with fail
              go_ret
              exact ⟨ret_bool HR.out.symm, below_drew (below_drew (Below.refl _ _))⟩
          · have hb : (x0 == y0) = false := by simpa using e0
            clear he
            go_wp2_with fail
            go_quiet (fail)
            go_wp2_with fail
            go_ret
            exact ⟨ret_bool HR.out.symm, below_drew (below_drew (Below.refl _ _))⟩
      · have hlti : ¬ (k : Int) < n := by omega
        have HD := Lib.hid (show decide (xs = ys) = true from by
          rw [decide_eq_true_iff]
          exact list_parts2 HN.out.symm HL.out.symm (fun j hj => HE.out j (by omega)))
        go_wp2_with fail
        go_ret
        exact ⟨ret_bool HD.out.symm, below_drew (Below.refl _ _)⟩
  · have HD := Lib.hid (show decide (xs = ys) = false from by
      rw [decide_eq_false_iff_not]
      intro e
      exact hl (by rw [e]))
    have hb : ((xs.length : Int) != ys.length) = true := by simp; omega
    go_enter Tryz.func29, Tryz.ntmps29
    go_wp2_with fail
    go_ret
    exact ⟨ret_bool HD.out.symm, Below.refl _ _⟩
end Go.Proofs.YtageielcdebjlaaGreatDoor
