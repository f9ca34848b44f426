/- Events in memory; feed.check and timetableref40.faultBehind: their contracts. -/
import Derived.Test.YtageielcdebjlaaGreatDoorDaysAll
import Derived.Test.YtageielcdebjlaaGreatDoorUidAll
namespace Go.Proofs.YtageielcdebjlaaGreatDoor
open Go.RowKit

def evCells (e : Ev) (v v' : Value) : Array Value := #[.string e.uid, .int .i64 e.seq, .bool e.canc, .int .i64 e.days.first, .int .i64 e.days.last, .int .i64 e.days.every, .int .i64 e.days.wd, v, v', .int .i64 e.start, .int .i64 e.mins, .string e.summ, .string e.loc]
def evVal (e : Ev) (v v' : Value) : Value := .agg (evCells e v v')

/-- An event in a block of its own. -/
def EvBox (b : Nat) (e : Ev) (v v' : Value) (w : World) : Prop := w.heap[b]? = some (.cells (evCells e v v') 82 (0, 0))
theorem EvBox.lt {b : Nat} {e : Ev} {v v' : Value} {w : World} (h : EvBox b e v v' w) : b < w.heap.size := (Array.getElem?_eq_some_iff.1 h).1
theorem EvBox.block {b : Nat} {e : Ev} {v v' : Value} {w w' : World} (h : EvBox b e v v' w) (hw : w'.heap[b]? = w.heap[b]?) : EvBox b e v v' w' := hw.trans h
/-- The cells of an event from place p of block b on. -/
structure EvC (b p : Nat) (e : Ev) (v v' : Value) (w : World) : Prop where
  c0 : w.cell? ⟨b, p, none⟩ = some (.string e.uid)
  c1 : w.cell? ⟨b, p + 1, none⟩ = some (.int .i64 e.seq)
  c2 : w.cell? ⟨b, p + 2, none⟩ = some (.bool e.canc)
  c3 : w.cell? ⟨b, p + 3, none⟩ = some (.int .i64 e.days.first)
  c4 : w.cell? ⟨b, p + 4, none⟩ = some (.int .i64 e.days.last)
  c5 : w.cell? ⟨b, p + 5, none⟩ = some (.int .i64 e.days.every)
  c6 : w.cell? ⟨b, p + 6, none⟩ = some (.int .i64 e.days.wd)
  c7 : w.cell? ⟨b, p + 7, none⟩ = some v
  c8 : w.cell? ⟨b, p + 8, none⟩ = some v'
  c9 : w.cell? ⟨b, p + 9, none⟩ = some (.int .i64 e.start)
  c10 : w.cell? ⟨b, p + 10, none⟩ = some (.int .i64 e.mins)
  c11 : w.cell? ⟨b, p + 11, none⟩ = some (.string e.summ)
  c12 : w.cell? ⟨b, p + 12, none⟩ = some (.string e.loc)
theorem EvBox.c {b : Nat} {e : Ev} {v v' : Value} {w : World} (h : EvBox b e v v' w) : EvC b 0 e v v' w := by
  constructor <;> (rw [Lib.cell_of_heap h]; rfl)

theorem ownsRow_len {w : World} {B : Nat} {e : TypeId} {k : Nat} {v : Value} {n : Nat} {xs : List Value} (h : w.ownsRow B e k v n xs) : ∃ p c, v = .slice p n c := by
  rcases h.2 with ⟨rfl, h0⟩ | ⟨g, cap, cur, rfl, _⟩
  · subst h0; exact ⟨_, _, rfl⟩
  · exact ⟨_, _, rfl⟩

theorem checkV_range (e : Ev) (v : Int) (h : e.seq < 1 ∨ v < e.seq) : checkV e v = 3 := by unfold checkV; rw [if_pos h]
theorem checkV_ser (e : Ev) (v : Int) (h : ¬ (e.seq < 1 ∨ v < e.seq)) (h2 : Tt.serV e.days ≠ 0) : checkV e v = Tt.serV e.days := by unfold checkV; rw [if_neg h, if_pos h2]
theorem checkV_empty (e : Ev) (v : Int) (h : ¬ (e.seq < 1 ∨ v < e.seq)) (h2 : Tt.serV e.days = 0) (h3 : Tt.serDays e.days = []) : checkV e v = 16 := by unfold checkV; rw [if_neg h, if_neg (by simp [h2]), if_pos h3]
theorem checkV_time (e : Ev) (v : Int) (h : ¬ (e.seq < 1 ∨ v < e.seq)) (h2 : Tt.serV e.days = 0) (h3 : Tt.serDays e.days ≠ []) :
    checkV e v = if e.start < 0 ∨ 1440 ≤ e.start ∨ e.mins < 1 ∨ 1440 < e.mins then 14
      else if e.summ.size = 0 ∨ Tt.labB e.summ.data.toList = false ∨ Tt.labB e.loc.data.toList = false then 4 else 0 := by unfold checkV; rw [if_neg h, if_neg (by simp [h2]), if_neg h3]

theorem nonempty_list (x : ByteArray) (h : x.size ≠ 0) : x.toList.isEmpty = false := by
  rw [Lib.toList_data]
  cases hx : x.data.toList with
  | nil => exact absurd (by rw [Lib.size_eq, hx]; rfl) h
  | cons c t => rfl
theorem empty_list (x : ByteArray) (h : x.size = 0) : x.toList = [] := by
  rw [Lib.toList_data]
  exact List.eq_nil_of_length_eq_zero (by rw [← Lib.size_eq]; exact h)

set_option maxHeartbeats 8000000 in
set_option maxRecDepth 100000 in
theorem check96 (e : Ev) (v : Int) (B : Nat) (w : World) (ao ao' : Option Addr) (c c' : Nat) (hB : B ≤ w.heap.size) (hI : Ints B w ao e.days.ex) (hI' : Ints B w ao' e.days.xt) (hn : e.days.ex.length ≤ 4611686018427387903) (hn2 : e.days.xt.length ≤ 4611686018427387903) (hs : e.summ.size ≤ 4611686018427387904) (hl : e.loc.size ≤ 4611686018427387904) :
    Calls Tryz.prog 96 #[evVal e (.slice ao e.days.ex.length c) (.slice ao' e.days.xt.length c'), .int .i64 v] w fun x w' => x = .returned (.int .i64 (checkV e v)) ∧ Below w.heap.size w w' := by
  have HI := Lib.hid hI
  have HI' := Lib.hid hI'
  have S0 : EvBox w.heap.size e (.slice ao e.days.ex.length c) (.slice ao' e.days.xt.length c') (w.alloc (.cells (evCells e (.slice ao e.days.ex.length c) (.slice ao' e.days.xt.length c')) 82)) := heap_alloc_new w _
  have HS0 := Lib.hid S0
  clear hI hI' S0
  unfold evCells at HS0
  unfold evVal evCells
  by_cases h1 : e.seq < 1 ∨ v < e.seq
  · have HE := Lib.hid (checkV_range e v h1)
    rcases h1 with h1 | h1
    · go_enter Tryz.func96, Tryz.ntmps96
      go_wp2_with fail
      go_ret
      exact ⟨ret_int HE.out.symm, below_box _ _⟩
    · by_cases h2 : e.seq < 1
      all_goals
        go_enter Tryz.func96, Tryz.ntmps96
        go_wp2_with fail
        go_ret
        exact ⟨ret_int HE.out.symm, below_box _ _⟩
  · have k1 : 1 ≤ e.seq := by omega
    have k2 : e.seq ≤ v := by omega
    have H1 := Lib.hid h1
    clear h1
    go_enter Tryz.func96, Tryz.ntmps96
    go_wp2_with fail
    refine (valid145_any e.days B _ hn hn2 ao ao' c c' (by simp; omega) (HI.out.below ((below_box w _).mono hB)) (HI'.out.below ((below_box w _).mono hB))).mono ?_
    rintro x w1 ⟨rfl, hb1⟩
    have hbe1 := below_then (below_box w _) hb1
    have HA1 := Lib.hid (EvBox.block (e := e) HS0.out (hb1.block _ (by simp)))
    clear hb1
    by_cases hv : Tt.serV e.days = 0
    · rw [hv]
      have HC1 := HA1.out.c
      obtain ⟨c0, c1, c2, c3, c4, c5, c6, c7, c8, c9, c10, c11, c12⟩ := HC1
      have HV := Lib.hid hv
      clear hv
      go_wp2_with fail
      refine (days74 e.days B _ hn hn2 ao ao' c c' (Nat.le_trans hB hbe1.size) (HI.out.below (hbe1.mono hB)) (HI'.out.below (hbe1.mono hB))).mono ?_
      rintro x w2 ⟨u, rfl, hown, hb2⟩
      obtain ⟨q1, q2, hu⟩ := ownsRow_len hown
      subst hu
      have hbe2 := below_then hbe1 hb2
      have HA2 := Lib.hid (HA1.out.block (hb2.block _ HA1.out.lt))
      clear hb2 hown c0 c1 c2 c3 c4 c5 c6 c7 c8 c9 c10 c11 c12 HA1 hbe1
      obtain ⟨c0, c1, c2, c3, c4, c5, c6, c7, c8, c9, c10, c11, c12⟩ := HA2.out.c
      by_cases hd : Tt.serDays e.days = []
      · have HE := Lib.hid (checkV_empty e v H1.out HV.out hd)
        have hlen : (Tt.serDays e.days).length = 0 := by rw [hd]; rfl
        rw [hlen]
        clear hd hlen
        go_wp2_with fail
        go_ret
        exact ⟨ret_int HE.out.symm, hbe2⟩
      · have HE := Lib.hid (checkV_time e v H1.out HV.out hd)
        obtain ⟨n, hlen⟩ : ∃ n, (Tt.serDays e.days).length = n + 1 := ⟨(Tt.serDays e.days).length - 1, by have := List.length_pos_iff.2 hd; omega⟩
        rw [hlen]
        clear hd hlen
        by_cases ht : e.start < 0 ∨ 1440 ≤ e.start ∨ e.mins < 1 ∨ 1440 < e.mins
        · have HE2 := Lib.hid (HE.out.trans (if_pos ht))
          clear HE
          go_wp2_with fail
          all_goals first
            | (go_ret; exact ⟨ret_int HE2.out.symm, hbe2⟩)
            | (exfalso; omega)
        · have HE2 := Lib.hid (HE.out.trans (if_neg ht))
          have t1 : ¬ e.start < 0 := by omega
          have t2 : ¬ 1440 ≤ e.start := by omega
          have t3 : ¬ e.mins < 1 := by omega
          have t4 : ¬ 1440 < e.mins := by omega
          clear HE ht
          by_cases hz : e.summ.size = 0
          · have HE3 := Lib.hid (HE2.out.trans (if_pos (.inl hz)))
            have hz1 := empty_list _ hz
            have hz2 : (!e.summ.toList.isEmpty) = false := by rw [hz1]; rfl
            clear hz
            go_wp2_with fail
            go_ret
            exact ⟨ret_int HE3.out.symm, hbe2⟩
          · have hz1 := nonempty_list _ hz
            have HZ := Lib.hid hz
            clear hz
            go_wp2_with fail
            refine (label167 e.summ _ hs).mono ?_
            rintro x w3 ⟨rfl, hw3⟩
            have hbe3 := below_then hbe2 hw3
            have HA3 := Lib.hid (HA2.out.block (hw3.block _ HA2.out.lt))
            clear c0 c1 c2 c3 c4 c5 c6 c7 c8 c9 c10 c11 c12 HA2 hbe2 hw3
            obtain ⟨c0, c1, c2, c3, c4, c5, c6, c7, c8, c9, c10, c11, c12⟩ := HA3.out.c
            cases hl1 : Tt.labB e.summ.data.toList
            · have HE3 := Lib.hid (HE2.out.trans (if_pos (.inr (.inl hl1))))
              clear hl1
              go_wp2_with fail
              go_ret
              exact ⟨ret_int HE3.out.symm, hbe3⟩
            · have HL1 := Lib.hid hl1
              clear hl1
              go_wp2_with fail
              refine (label167 e.loc _ hl).mono ?_
              rintro x w4 ⟨rfl, hw4⟩
              have hbe4 := below_then hbe3 hw4
              cases hl2 : Tt.labB e.loc.data.toList
              · have HE3 := Lib.hid (HE2.out.trans (if_pos (.inr (.inr hl2))))
                clear hl2
                go_wp2_with fail
                go_ret
                exact ⟨ret_int HE3.out.symm, hbe4⟩
              · have HE3 := Lib.hid (HE2.out.trans (if_neg (by rw [hl2, HL1.out]; simp [HZ.out])))
                clear hl2
                go_wp2_with fail
                go_ret
                exact ⟨ret_int HE3.out.symm, hbe4⟩
    · have HE := Lib.hid (checkV_ser e v H1.out hv)
      have hv2 : (Tt.serV e.days != 0) = true := by simp [hv]
      clear hv
      go_wp2_with fail
      go_ret
      exact ⟨ret_int HE.out.symm, hbe1⟩

set_option maxHeartbeats 8000000 in
set_option maxRecDepth 100000 in
theorem fault99 (e : Ev) (v : Int) (B : Nat) (w : World) (ao ao' : Option Addr) (c c' : Nat) (hB : B ≤ w.heap.size) (hI : Ints B w ao e.days.ex) (hI' : Ints B w ao' e.days.xt) (hn : e.days.ex.length ≤ 4611686018427387903) (hn2 : e.days.xt.length ≤ 4611686018427387903) (hs : e.summ.size ≤ 4611686018427387904) (hl : e.loc.size ≤ 4611686018427387904) :
    Calls Tryz.prog 99 #[evVal e (.slice ao e.days.ex.length c) (.slice ao' e.days.xt.length c'), .int .i64 v] w fun x w' => x = .returned (.int .i64 (checkV e v)) ∧ Below w.heap.size w w' := by
  have HI := Lib.hid hI
  have HI' := Lib.hid hI'
  have S0 : EvBox w.heap.size e (.slice ao e.days.ex.length c) (.slice ao' e.days.xt.length c') (w.alloc (.cells (evCells e (.slice ao e.days.ex.length c) (.slice ao' e.days.xt.length c')) 82)) := heap_alloc_new w _
  have HS0 := Lib.hid S0
  clear hI hI' S0
  unfold evCells at HS0
  unfold evVal evCells
  by_cases h1 : e.seq < 1 ∨ v < e.seq
  · have HE := Lib.hid (checkV_range e v h1)
    rcases h1 with h1 | h1
    · go_enter Tryz.func99, Tryz.ntmps99
      go_wp2_with fail
      go_ret
      exact ⟨ret_int HE.out.symm, below_box _ _⟩
    · by_cases h2 : e.seq < 1
      all_goals
        go_enter Tryz.func99, Tryz.ntmps99
        go_wp2_with fail
        go_ret
        exact ⟨ret_int HE.out.symm, below_box _ _⟩
  · have k1 : 1 ≤ e.seq := by omega
    have k2 : e.seq ≤ v := by omega
    have H1 := Lib.hid h1
    clear h1
    go_enter Tryz.func99, Tryz.ntmps99
    go_wp2_with fail
    refine (valid170_any e.days B _ hn hn2 ao ao' c c' (by simp; omega) (HI.out.below ((below_box w _).mono hB)) (HI'.out.below ((below_box w _).mono hB))).mono ?_
    rintro x w1 ⟨rfl, hb1⟩
    have hbe1 := below_then (below_box w _) hb1
    have HA1 := Lib.hid (EvBox.block (e := e) HS0.out (hb1.block _ (by simp)))
    clear hb1
    by_cases hv : Tt.serV e.days = 0
    · rw [hv]
      have HC1 := HA1.out.c
      obtain ⟨c0, c1, c2, c3, c4, c5, c6, c7, c8, c9, c10, c11, c12⟩ := HC1
      have HV := Lib.hid hv
      clear hv
      go_wp2_with fail
      refine (days119 e.days B _ hn hn2 ao ao' c c' (Nat.le_trans hB hbe1.size) (HI.out.below (hbe1.mono hB)) (HI'.out.below (hbe1.mono hB))).mono ?_
      rintro x w2 ⟨u, rfl, hown, hb2⟩
      obtain ⟨q1, q2, hu⟩ := ownsRow_len hown
      subst hu
      have hbe2 := below_then hbe1 hb2
      have HA2 := Lib.hid (HA1.out.block (hb2.block _ HA1.out.lt))
      clear hb2 hown c0 c1 c2 c3 c4 c5 c6 c7 c8 c9 c10 c11 c12 HA1 hbe1
      obtain ⟨c0, c1, c2, c3, c4, c5, c6, c7, c8, c9, c10, c11, c12⟩ := HA2.out.c
      by_cases hd : Tt.serDays e.days = []
      · have HE := Lib.hid (checkV_empty e v H1.out HV.out hd)
        have hlen : (Tt.serDays e.days).length = 0 := by rw [hd]; rfl
        rw [hlen]
        clear hd hlen
        go_wp2_with fail
        go_ret
        exact ⟨ret_int HE.out.symm, hbe2⟩
      · have HE := Lib.hid (checkV_time e v H1.out HV.out hd)
        obtain ⟨n, hlen⟩ : ∃ n, (Tt.serDays e.days).length = n + 1 := ⟨(Tt.serDays e.days).length - 1, by have := List.length_pos_iff.2 hd; omega⟩
        rw [hlen]
        clear hd hlen
        by_cases ht : e.start < 0 ∨ 1440 ≤ e.start ∨ e.mins < 1 ∨ 1440 < e.mins
        · have HE2 := Lib.hid (HE.out.trans (if_pos ht))
          clear HE
          go_wp2_with fail
          all_goals first
            | (go_ret; exact ⟨ret_int HE2.out.symm, hbe2⟩)
            | (exfalso; omega)
        · have HE2 := Lib.hid (HE.out.trans (if_neg ht))
          have t1 : ¬ e.start < 0 := by omega
          have t2 : ¬ 1440 ≤ e.start := by omega
          have t3 : ¬ e.mins < 1 := by omega
          have t4 : ¬ 1440 < e.mins := by omega
          clear HE ht
          by_cases hz : e.summ.size = 0
          · have HE3 := Lib.hid (HE2.out.trans (if_pos (.inl hz)))
            have hz1 := empty_list _ hz
            have hz2 : (!e.summ.toList.isEmpty) = false := by rw [hz1]; rfl
            clear hz
            go_wp2_with fail
            go_ret
            exact ⟨ret_int HE3.out.symm, hbe2⟩
          · have hz1 := nonempty_list _ hz
            have HZ := Lib.hid hz
            clear hz
            go_wp2_with fail
            refine (label171 e.summ _ hs).mono ?_
            rintro x w3 ⟨rfl, hw3⟩
            rw [hw3]
            clear hw3 w3
            cases hl1 : Tt.labB e.summ.data.toList
            · have HE3 := Lib.hid (HE2.out.trans (if_pos (.inr (.inl hl1))))
              clear hl1
              go_wp2_with fail
              go_ret
              exact ⟨ret_int HE3.out.symm, hbe2⟩
            · have HL1 := Lib.hid hl1
              clear hl1
              go_wp2_with fail
              refine (label171 e.loc _ hl).mono ?_
              rintro x w4 ⟨rfl, hw4⟩
              rw [hw4]
              clear hw4 w4
              cases hl2 : Tt.labB e.loc.data.toList
              · have HE3 := Lib.hid (HE2.out.trans (if_pos (.inr (.inr hl2))))
                clear hl2
                go_wp2_with fail
                go_ret
                exact ⟨ret_int HE3.out.symm, hbe2⟩
              · have HE3 := Lib.hid (HE2.out.trans (if_neg (by rw [hl2, HL1.out]; simp [HZ.out])))
                clear hl2
                go_wp2_with fail
                go_ret
                exact ⟨ret_int HE3.out.symm, hbe2⟩
    · have HE := Lib.hid (checkV_ser e v H1.out hv)
      have hv2 : (Tt.serV e.days != 0) = true := by simp [hv]
      clear hv
      go_wp2_with fail
      go_ret
      exact ⟨ret_int HE.out.symm, hbe1⟩

end Go.Proofs.YtageielcdebjlaaGreatDoor
