/- Series of days: contracts of the small functions of calendar and recurrence, and of their references. recurrence.Valid and its reference: their contracts: each gives the error of the series. timetableref39.Valid: its contract: it gives the error of the series. feed.Fold: its contract. The generators' Text: some text of the given characters. timetableref02.SameStrings: its contract; slices of strings in memory. strings.IndexAny and ContainsAny at the two bytes of a line's end, for every string. strings.IndexRune at a rune that is no ASCII, in two ASCII bytes. strings.IndexAny and ContainsAny at the two bytes of a line's end, for every string shorter than the model's bound. More plain facts on lines: how pieces are joined one by one, and how long they are. feed.Unfold: its contract. -/
import Derived.Test.YtageielcdebjlaaGreatDoorPk1
import Derived.Test.YtageielcdebjlaaGreatDoorPk2
import Derived.Below
import Derived.Laws.BitsLemmas
import Derived.Outline
import Derived.Lib.Builder
import Derived.StillTailTactics
import Derived.WalkSpells
import Derived.Laws.Runes
import Derived.Laws.RangeAny
import Derived.Lib.OthersKept
import Derived.Deep.LoopGhost
import Derived.WalkMore
-- SerW
namespace Go.Proofs.YtageielcdebjlaaGreatDoor
open Go.RowKit

set_option maxHeartbeats 400000 in
theorem isD192 (n : Int) (w : World) : Calls Tryz.prog 192 #[.int .i64 n] w fun e w' => e = .returned (.bool (Tt.isD n)) ∧ w' = w := by
  have HD := Lib.hid (show Tt.isD n = (decide (0 ≤ n) && decide (n ≤ 36524)) from rfl)
  go_enter Tryz.func192, Tryz.ntmps192
  go_wp2_with fail
  all_goals
    go_ret; exact ⟨ret_bool (by rw [HD.out]; simp; omega), rfl⟩

set_option maxHeartbeats 400000 in
theorem isD206 (n : Int) (w : World) : Calls Tryz.prog 206 #[.int .i64 n] w fun e w' => e = .returned (.bool (Tt.isD n)) ∧ w' = w := by
  have HD := Lib.hid (show Tt.isD n = (decide (0 ≤ n) && decide (n ≤ 36524)) from rfl)
  go_enter Tryz.func206, Tryz.ntmps206
  go_wp2_with fail
  all_goals
    go_ret; exact ⟨ret_bool (by rw [HD.out]; simp; omega), rfl⟩

set_option maxHeartbeats 400000 in
theorem wkd191 (n : Int) (w : World) (h : Tt.isD n = true) : Calls Tryz.prog 191 #[.int .i64 n] w fun e w' => e = .returned (.int .i64 (Tt.wk n)) ∧ w' = w := by
  have hb := (Tt.isD_iff n).1 h
  have H := Lib.hid h; clear h; go_enter Tryz.func191, Tryz.ntmps191
  go_wp2_with (go_at_call 192; refine (isD192 _ _).mono ?_; rintro e w' ⟨rfl, rfl⟩; rw [H.out])
  go_ret; exact ⟨rfl, rfl⟩

theorem and_one (x : Int) (h0 : 0 ≤ x) (h1 : x < 4611686018427387904) : bits .and .i64 x 1 = x % 2 := by
  have := bits_mask .i64 62 (by decide) (fun n h0 h1 => by rw [IntKind.wrap_i64]; omega) 1 (by decide) x h0 (by simpa using h1)
  simpa using this

theorem shr_bd (m k : Int) (h0 : 0 ≤ m) (h1 : m < 4611686018427387904) : 0 ≤ m / 2 ^ k.toNat ∧ m / 2 ^ k.toNat < 4611686018427387904 := by
  have hp : (0 : Int) < 2 ^ k.toNat := Int.pow_pos (by decide)
  refine ⟨Int.ediv_nonneg h0 (by omega), ?_⟩
  have := Int.ediv_le_self (2 ^ k.toNat) h0
  omega

theorem bit_and (m k : Int) (h0 : 0 ≤ m) (h1 : m < 4611686018427387904) : bits .and .i64 (m / 2 ^ k.toNat) 1 = m / 2 ^ k.toNat % 2 := by
  obtain ⟨a, b⟩ := shr_bd m k h0 h1
  exact and_one _ a b

theorem bit_not (m k : Int) (h0 : 0 ≤ m) (h1 : m < 4611686018427387904) : (bits .and .i64 (m / 2 ^ k.toNat) 1 == 0) = !Tt.bit m k := by
  rw [bit_and m k h0 h1]
  unfold Tt.bit
  rcases (show m / 2 ^ k.toNat % 2 = 0 ∨ m / 2 ^ k.toNat % 2 = 1 by omega) with e | e
  · rw [e]; rfl
  · rw [e]; rfl

theorem bit_is (m k : Int) (h0 : 0 ≤ m) (h1 : m < 4611686018427387904) : (bits .and .i64 (m / 2 ^ k.toNat) 1 == 1) = Tt.bit m k := by
  rw [bit_and m k h0 h1]
  unfold Tt.bit
  rcases (show m / 2 ^ k.toNat % 2 = 0 ∨ m / 2 ^ k.toNat % 2 = 1 by omega) with e | e
  · rw [e]; rfl
  · rw [e]; rfl

theorem below_then {w w1 w2 : World} (h : Below w.heap.size w w1) (k : Below w1.heap.size w1 w2) : Below w.heap.size w w2 := h.trans (k.mono h.size)
theorem below_drew {w w1 : World} {B q : Nat} (h : Below B w w1) : Below B w (w1.drewN q) := h.trans ⟨rfl, rfl, rfl, Nat.le_refl _, fun _ _ => rfl⟩
theorem below_drw {w w1 : World} {B : Nat} (h : Below B w w1) : Below B w w1.drew := h.trans ⟨rfl, rfl, rfl, Nat.le_refl _, fun _ _ => rfl⟩
theorem redrew (w : World) (n : Nat) : ∃ w2 : World, w2 = w.drewN n ∧ (∀ B : Nat, Below B w w2) ∧ (∀ p : Addr, w2.cell? p = w.cell? p) ∧ ∀ b : Nat, w2.heap[b]? = w.heap[b]? :=
  ⟨_, rfl, fun _ => ⟨rfl, rfl, rfl, Nat.le_refl _, fun _ _ => rfl⟩, fun _ => World.cell?_of_block (w := w) rfl, fun _ => rfl⟩
theorem below_box (w : World) (o : Obj) : Below w.heap.size w (w.alloc o) := (Below.refl _ w).alloc (Nat.le_refl _) _

set_option maxHeartbeats 1000000 in
theorem counts280 (f l e m d : Int) (x y : Value) (w : World) (hf : Tt.isD f = true) (hd : Tt.isD d = true) (hfd : f ≤ d) (he0 : 1 ≤ e) (he1 : e ≤ 4) (ao ao' : Option Addr) (n n' c c' : Nat) (hx : x = .slice ao n c) (hy : y = .slice ao' n' c') :
    Calls Tryz.prog 280 #[.agg #[.int .i64 f, .int .i64 l, .int .i64 e, .int .i64 m, x, y], .int .i64 d] w fun e' w' => e' = .returned (.bool (Tt.cnt f e d)) ∧ Below w.heap.size w w' := by
  have hb := (Tt.isD_iff d).1 hd
  have hb2 := (Tt.isD_iff f).1 hf
  have hw := Tt.wk_bd d; have hw2 := Tt.wk_bd f; have hm := Tt.monday_le f d hfd; have H := Lib.hid hd; have H2 := Lib.hid hf; have HC := Lib.hid (show Tt.cnt f e d = decide (((d - Tt.wk d) - (f - Tt.wk f)) / 7 % e = 0) from rfl)
  clear hd hf; subst hx hy
  go_enter Tryz.func280, Tryz.ntmps280
  go_wp2_with (go_at_call 191; refine (wkd191 _ _ H.out).mono ?_; rintro e w' ⟨rfl, rfl⟩)
  go_quiet ((go_at_call 191; exact Calls.quiet_of_same (wkd191 _ _ H2.out)))
  go_wp2_with fail
  go_ret; exact ⟨ret_bool (by rw [HC.out]; rfl), below_drew (below_box _ _)⟩

set_option maxHeartbeats 2000000 in
theorem regular220 (s : Tt.Ser) (d : Int) (w : World) (hf : Tt.isD s.first = true) (hd : Tt.isD d = true) (h1 : s.first ≤ d) (h2 : d ≤ s.last) (he0 : 1 ≤ s.every) (he1 : s.every ≤ 4) (hw0 : 0 ≤ s.wd) (hw1 : s.wd ≤ 127) (ao ao' : Option Addr) (n n' c c' : Nat) :
    Calls Tryz.prog 220 #[.agg #[.int .i64 s.first, .int .i64 s.last, .int .i64 s.every, .int .i64 s.wd, .slice ao n c, .slice ao' n' c'], .int .i64 d] w fun e' w' => e' = .returned (.bool (Tt.regB s d)) ∧ Below w.heap.size w w' := by
  have hb := (Tt.isD_iff d).1 hd
  have hw := Tt.wk_bd d; have H := Lib.hid hd; have H2 := Lib.hid hf; obtain ⟨f, l, e, m, ex, xt⟩ := s; simp only at *
  clear hd hf; have d1 : decide (d < f) = false := decide_eq_false (by omega)
  have d2 : decide (l < d) = false := decide_eq_false (by omega)
  have HB := Lib.hid (bit_not m (Tt.wk d) hw0 (by omega))
  have HR := Lib.hid (show Tt.regB ⟨f, l, e, m, ex, xt⟩ d = (Tt.bit m (Tt.wk d) && Tt.cnt f e d) by
    unfold Tt.regB; simp only; rw [decide_eq_true h1, decide_eq_true h2]; rfl)
  go_enter Tryz.func220, Tryz.ntmps220
  go_wp2_with fail
  go_quiet ((go_at_call 191; exact Calls.quiet_of_same (wkd191 _ _ H.out)))
  rw [HB.out]
  cases hb1 : Tt.bit m (Tt.wk d)
  · go_wp2_with fail
    go_ret; exact ⟨ret_bool (by rw [HR.out, hb1]; rfl), below_drew (below_box _ _)⟩
  · go_wp2_with fail
    refine (counts280 _ _ _ _ _ _ _ _ H2.out H.out h1 he0 he1 _ _ _ _ _ _ rfl rfl).mono ?_
    rintro e w1 ⟨rfl, hb2⟩; go_wp2_with fail
    go_ret; exact ⟨ret_bool (by rw [HR.out, hb1]; rfl), below_then (below_drew (below_box _ _)) hb2⟩

set_option maxHeartbeats 2000000 in
theorem regular220_out (s : Tt.Ser) (d : Int) (w : World) (h1 : d < s.first ∨ s.last < d) (ao ao' : Option Addr) (n n' c c' : Nat) :
    Calls Tryz.prog 220 #[.agg #[.int .i64 s.first, .int .i64 s.last, .int .i64 s.every, .int .i64 s.wd, .slice ao n c, .slice ao' n' c'], .int .i64 d] w fun e' w' => e' = .returned (.bool (Tt.regB s d)) ∧ Below w.heap.size w w' := by
  obtain ⟨f, l, e, m, ex, xt⟩ := s; simp only at *
  have HR := Lib.hid (show Tt.regB ⟨f, l, e, m, ex, xt⟩ d = false by
    unfold Tt.regB; simp only
    rcases h1 with h | h
    · rw [decide_eq_false (by omega)]; rfl
    · rw [decide_eq_false (show ¬ d ≤ l by omega)]; simp)
  by_cases h2 : d < f
  · have d1 : decide (d < f) = true := decide_eq_true h2
    have d3 : decide (f ≤ d) = false := decide_eq_false (by omega)
    clear h1; go_enter Tryz.func220, Tryz.ntmps220
    go_wp2_with fail
    go_quiet (fail)
    go_wp2_with fail
    go_ret; exact ⟨ret_bool (by rw [HR.out]), below_drew (below_box _ _)⟩
  · have d1 : decide (d < f) = false := decide_eq_false h2
    have d3 : decide (f ≤ d) = true := decide_eq_true (by omega)
    have d2 : decide (l < d) = true := decide_eq_true (by omega)
    have d4 : decide (d ≤ l) = false := decide_eq_false (by omega)
    clear h1; go_enter Tryz.func220, Tryz.ntmps220
    go_wp2_with fail
    go_quiet (fail)
    go_wp2_with fail
    go_ret; exact ⟨ret_bool (by rw [HR.out]), below_drew (below_box _ _)⟩

theorem regular220_any (s : Tt.Ser) (d : Int) (w : World) (hf : Tt.isD s.first = true) (hl : Tt.isD s.last = true) (he0 : 1 ≤ s.every) (he1 : s.every ≤ 4) (hw0 : 0 ≤ s.wd) (hw1 : s.wd ≤ 127) (ao ao' : Option Addr) (n n' c c' : Nat) :
    Calls Tryz.prog 220 #[.agg #[.int .i64 s.first, .int .i64 s.last, .int .i64 s.every, .int .i64 s.wd, .slice ao n c, .slice ao' n' c'], .int .i64 d] w fun e' w' => e' = .returned (.bool (Tt.regB s d)) ∧ Below w.heap.size w w' := by
  by_cases h : d < s.first ∨ s.last < d
  · exact regular220_out s d w h _ _ _ _ _ _
  · refine regular220 s d w hf ?_ (by omega) (by omega) he0 he1 hw0 hw1 _ _ _ _ _ _
    rw [Tt.isD_iff] at *; omega

end Go.Proofs.YtageielcdebjlaaGreatDoor

-- SerV
namespace Go.Proofs.YtageielcdebjlaaGreatDoor
open Go.RowKit

/-- The numbers of a slice, in blocks below B. -/
def Ints (B : Nat) (w : World) (ao : Option Addr) (xs : List Int) : Prop := ∀ (j : Nat) (x : Int), xs[j]? = some x → ∃ a, ao = some a ∧ a.block < B ∧ w.cell? (a.add j) = some (.int .i64 x)

theorem Ints.below {B : Nat} {w w' : World} {ao : Option Addr} {xs : List Int} (h : Ints B w ao xs) (hw : Below B w w') : Ints B w' ao xs := fun j x hx => by
  obtain ⟨a, ha, hlt, hc⟩ := h j x hx
  exact ⟨a, ha, hlt, (hw.cell (p := a.add j) (by rw [addr_add_block]; exact hlt)).trans hc⟩
theorem Ints.mono {B B' : Nat} {w : World} {ao : Option Addr} {xs : List Int} (h : Ints B w ao xs) (hB : B ≤ B') : Ints B' w ao xs := fun j x hx => by
  obtain ⟨a, ha, hlt, hc⟩ := h j x hx
  exact ⟨a, ha, by omega, hc⟩

def serVal (s : Tt.Ser) (v v' : Value) : Value := .agg #[.int .i64 s.first, .int .i64 s.last, .int .i64 s.every, .int .i64 s.wd, v, v']

/-- A series in block b. -/
def SerAt (b : Nat) (s : Tt.Ser) (v v' : Value) (w : World) : Prop := w.heap[b]? = some (.cells #[.int .i64 s.first, .int .i64 s.last, .int .i64 s.every, .int .i64 s.wd, v, v'] 80 (0, 0))
theorem SerAt.lt {b : Nat} {s : Tt.Ser} {v v' : Value} {w : World} (h : SerAt b s v v' w) : b < w.heap.size := (Array.getElem?_eq_some_iff.1 h).1
theorem SerAt.cells {b : Nat} {s : Tt.Ser} {v v' : Value} {w : World} (h : SerAt b s v v' w) :
    w.cell? ⟨b, 0, none⟩ = some (.int .i64 s.first) ∧ w.cell? ⟨b, 1, none⟩ = some (.int .i64 s.last) ∧ w.cell? ⟨b, 2, none⟩ = some (.int .i64 s.every) ∧ w.cell? ⟨b, 3, none⟩ = some (.int .i64 s.wd) ∧ w.cell? ⟨b, 4, none⟩ = some v ∧ w.cell? ⟨b, 5, none⟩ = some v' := by
  refine ⟨?_, ?_, ?_, ?_, ?_, ?_⟩ <;> (rw [Lib.cell_of_heap h]; rfl)
theorem SerAt.block {b : Nat} {s : Tt.Ser} {v v' : Value} {w w' : World} (h : SerAt b s v v' w) (hw : w'.heap[b]? = w.heap[b]?) : SerAt b s v v' w' := hw.trans h

set_option maxHeartbeats 4000000 in
set_option maxRecDepth 100000 in
theorem valid145_head (s : Tt.Ser) (w : World) (hh : Tt.headV s ≠ 0) (hn : s.ex.length ≤ 4611686018427387903) (hn2 : s.xt.length ≤ 4611686018427387903) (ao ao' : Option Addr) (c c' : Nat) :
    Calls Tryz.prog 145 #[serVal s (.slice ao s.ex.length c) (.slice ao' s.xt.length c')] w fun e w' => e = .returned (.int .i64 (Tt.headV s)) ∧ Below w.heap.size w w' := by
  have HH := Lib.hid hh; unfold serVal
  obtain ⟨f, l, e, m, ex, xt⟩ := s; simp only at *
  clear hh; cases hf : Tt.isD f
  · have HE := Lib.hid (show Tt.headV ⟨f, l, e, m, ex, xt⟩ = 13 by unfold Tt.headV; simp only [hf]; rfl)
    have HF := Lib.hid hf; clear hf; go_enter Tryz.func145, Tryz.ntmps145
    go_wp2_with (go_at_call 206; refine (isD206 _ _).mono ?_; rintro e w' ⟨rfl, rfl⟩; try rw [HF.out])
    go_ret; exact ⟨ret_int HE.out.symm, below_box _ _⟩
  · cases hl : Tt.isD l
    · have HE := Lib.hid (show Tt.headV ⟨f, l, e, m, ex, xt⟩ = 13 by unfold Tt.headV; simp only [hf, hl]; rfl)
      have HF := Lib.hid hf; have HL := Lib.hid hl; clear hf hl; go_enter Tryz.func145, Tryz.ntmps145
      go_wp2_with (go_at_call 206; refine (isD206 _ _).mono ?_; rintro e w' ⟨rfl, rfl⟩; first | rw [HF.out] | rw [HL.out])
      all_goals
        go_ret; exact ⟨ret_int HE.out.symm, below_box _ _⟩
    · have hfb := (Tt.isD_iff f).1 hf
      have hlb := (Tt.isD_iff l).1 hl
      have HE := Lib.hid (show Tt.headV ⟨f, l, e, m, ex, xt⟩ = (if l < f ∨ f + 140 < l then 3 else if e < 1 ∨ 4 < e ∨ m < 0 ∨ 127 < m then 3 else if 140 < (ex.length : Int) + xt.length then 2 else 0) by unfold Tt.headV; simp only [hf, hl]; rfl)
      have HF := Lib.hid hf; have HL := Lib.hid hl; clear hf hl; go_enter Tryz.func145, Tryz.ntmps145
      go_wp2_with (go_at_call 206; refine (isD206 _ _).mono ?_; rintro e w' ⟨rfl, rfl⟩; first | rw [HF.out] | rw [HL.out])
      all_goals first
        | (go_ret; exact ⟨ret_int (by rw [HE.out]; (repeat' split) <;> omega), below_box _ _⟩)
        | (refine absurd ?_ HH.out; rw [HE.out]; (repeat' split) <;> omega)

set_option maxHeartbeats 4000000 in
set_option maxRecDepth 100000 in
theorem valid145_body (s : Tt.Ser) (B : Nat) (w : World) (hh : Tt.Head s) (ao ao' : Option Addr) (c c' : Nat) (hB : B ≤ w.heap.size) (hI : Ints B w ao s.ex) (hI' : Ints B w ao' s.xt) :
    Calls Tryz.prog 145 #[serVal s (.slice ao s.ex.length c) (.slice ao' s.xt.length c')] w fun e w' => e = .returned (.int .i64 (Tt.serV s)) ∧ Below w.heap.size w w' := by
  have hf : Tt.isD s.first = true := (Tt.isD_iff _).2 ⟨hh.f0, hh.f1⟩
  have hl : Tt.isD s.last = true := (Tt.isD_iff _).2 ⟨hh.l0, hh.l1⟩
  have HF := Lib.hid hf; have HL := Lib.hid hl; have HH := Lib.hid hh; have HI := Lib.hid hI; have HI' := Lib.hid hI'; have R := fun d W => regular220_any s d W hf hl hh.e0 hh.e1 hh.w0 hh.w1
  have HR := Lib.hid R; obtain ⟨a1, a2, a3, a4, a5, a6, a7, a8, a9, a10, a11⟩ := hh; have hsum : IntKind.i64.wrap ((s.ex.length : Int) + s.xt.length) = (s.ex.length : Int) + s.xt.length := by rw [IntKind.wrap_i64]; omega
  have HS := Lib.hid hsum; have S0 : SerAt w.heap.size s (.slice ao s.ex.length c) (.slice ao' s.xt.length c') (w.alloc (.cells #[.int .i64 s.first, .int .i64 s.last, .int .i64 s.every, .int .i64 s.wd, .slice ao s.ex.length c, .slice ao' s.xt.length c'] 80)) := heap_alloc_new w _
  have HS0 := Lib.hid S0; unfold serVal
  clear hf hl hI hI' R hsum S0; go_enter Tryz.func145, Tryz.ntmps145
  go_wp2_with (go_at_call 206; refine (isD206 _ _).mono ?_; rintro e w' ⟨rfl, rfl⟩; first | rw [HF.out] | rw [HL.out])
  go_loopw [63] (fun iv wr => ∃ k : Nat, iv = .int .i64 k ∧ k ≤ s.ex.length ∧ Below w.heap.size w wr ∧ Hid (SerAt w.heap.size s (.slice ao s.ex.length c) (.slice ao' s.xt.length c') wr) ∧ Hid (Tt.listV 12 (Tt.regB s) none s.ex = Tt.listF 12 (Tt.regB s) s.ex k)) (fun iv _ => s.ex.length - (intOf iv).toNat)
  case atStart => exact ⟨0, rfl, Nat.zero_le _, below_box _ _, HS0.out, rfl⟩
  case round =>
    obtain ⟨k, rfl, hk, hbe, HA, HX⟩ := hrel; obtain ⟨e0, e1, e2, e3, e4, e5⟩ := HA.out.cells
    have hsz := HA.out.lt; by_cases hlt : k < s.ex.length
    · obtain ⟨d, hd⟩ : ∃ d, s.ex[k]? = some d := ⟨_, List.getElem?_eq_getElem hlt⟩
      obtain ⟨a, ha, hlta, hca⟩ := HI.out k d hd
      subst ha; have hc := (hbe.cell (p := a.add k) (by rw [addr_add_block]; omega)).trans hca
      clear hca; have HD := Lib.hid hd; have hki : (k : Int) < (s.ex.length : Int) := by omega
      cases k with
      | zero =>
        rw [Addr.add_zero'] at hc
        have HLT := Lib.hid (show ∀ j q, 0 = j + 1 → s.ex[j]? = some q → q < d from fun j q h => by omega)
        clear hd; go_wp2_with fail
        refine (HR.out d _ _ _ _ _ _ _).mono ?_
        rintro e w1 ⟨rfl, hb1⟩; have hbe1 := below_then hbe hb1; have HA1 := Lib.hid (HA.out.block (hb1.block _ hsz))
        cases hr : Tt.regB s d
        · have HE := Lib.hid (Tt.serV_ex s HH.out 0 12 HX.out (Tt.listF_bad 12 _ _ 0 d HD.out HLT.out hr) (by decide))
          clear hr; go_wp2_with fail
          go_ret; exact ⟨ret_int HE.out.symm, hbe1⟩
        · have HE := Lib.hid (HX.out.trans (Tt.listF_step 12 _ _ 0 d HD.out HLT.out hr))
          clear hr; go_wp2_with fail
          go_roundw
          case rel => exact ⟨0 + 1, by go_num, by omega, hbe1, HA1.out, HE.out⟩
          case measure => simp [intOf]; omega
      | succ j =>
        obtain ⟨q, hq⟩ : ∃ q, s.ex[j]? = some q := ⟨_, List.getElem?_eq_getElem (by omega)⟩
        obtain ⟨a', ha', _, hca'⟩ := HI.out j q hq
        cases ha'
        have hc' := (hbe.cell (p := a.add j) (by rw [addr_add_block]; omega)).trans hca'
        rw [Addr.add_succ'] at hc
        clear hca'; by_cases hdq : d ≤ q
        · have HE := Lib.hid (Tt.serV_ex s HH.out (j + 1) 63 HX.out (Tt.listF_order 12 _ _ j d q hd hq hdq) (by decide))
          clear hd hq; go_wp2_with fail
          go_ret; exact ⟨ret_int HE.out.symm, hbe⟩
        · have HLT := Lib.hid (show ∀ j' q', j + 1 = j' + 1 → s.ex[j']? = some q' → q' < d from fun j' q' h hq' => by
            obtain rfl : j = j' := by omega
            rw [hq] at hq'; cases hq'; omega)
          clear hd hq; go_wp2_with fail
          refine (HR.out d _ _ _ _ _ _ _).mono ?_
          rintro e w1 ⟨rfl, hb1⟩; have hbe1 := below_then hbe hb1; have HA1 := Lib.hid (HA.out.block (hb1.block _ hsz))
          cases hr : Tt.regB s d
          · have HE := Lib.hid (Tt.serV_ex s HH.out (j + 1) 12 HX.out (Tt.listF_bad 12 _ _ (j + 1) d HD.out HLT.out hr) (by decide))
            clear hr; go_wp2_with fail
            go_ret; exact ⟨ret_int HE.out.symm, hbe1⟩
          · have HE := Lib.hid (HX.out.trans (Tt.listF_step 12 _ _ (j + 1) d HD.out HLT.out hr))
            clear hr; go_wp2_with fail
            go_roundw
            case rel => exact ⟨(j + 1) + 1, by go_num, by omega, hbe1, HA1.out, HE.out⟩
            case measure => simp [intOf]; omega
    · have hke : k = s.ex.length := by omega
      have hki : ¬ (k : Int) < (s.ex.length : Int) := by omega
      have HX1 := Lib.hid (HX.out.trans (Tt.listF_end 12 _ _ k (by omega)))
      clear hke HX; go_wp2_with fail
      clear hki hlt hk; go_loopw [88] (fun iv wr => ∃ k : Nat, iv = .int .i64 k ∧ k ≤ s.xt.length ∧ Below w.heap.size w wr ∧ Hid (SerAt w.heap.size s (.slice ao s.ex.length c) (.slice ao' s.xt.length c') wr) ∧ Hid (Tt.listV 11 (Tt.extB s) none s.xt = Tt.listF 11 (Tt.extB s) s.xt k)) (fun iv _ => s.xt.length - (intOf iv).toNat)
      case atStart => exact ⟨0, rfl, Nat.zero_le _, hbe, HA.out, rfl⟩
      case round =>
        clear e0 e1 e2 e3 e4 e5 hsz hbe HA; obtain ⟨k, rfl, hk, hbe, HA, HX⟩ := hrel; obtain ⟨e0, e1, e2, e3, e4, e5⟩ := HA.out.cells
        have hsz := HA.out.lt; by_cases hlt : k < s.xt.length
        · obtain ⟨d, hd⟩ : ∃ d, s.xt[k]? = some d := ⟨_, List.getElem?_eq_getElem hlt⟩
          obtain ⟨a, ha, hlta, hca⟩ := HI'.out k d hd
          subst ha; have hc := (hbe.cell (p := a.add k) (by rw [addr_add_block]; omega)).trans hca
          clear hca; have HD := Lib.hid hd; have hki : (k : Int) < (s.xt.length : Int) := by omega
          cases k with
          | zero =>
            rw [Addr.add_zero'] at hc
            have HLT := Lib.hid (show ∀ j q, 0 = j + 1 → s.xt[j]? = some q → q < d from fun j q h => by omega)
            clear hd; by_cases hdf : d < s.first ∨ s.last < d
            · have HE := Lib.hid ((Tt.serV_xt s HH.out 0 HX1.out HX.out).trans (Tt.listF_bad 11 _ _ 0 d HD.out HLT.out (Tt.extB_out s d hdf)))
              rcases hdf with h | h
              · go_wp2_with fail
                go_ret; exact ⟨ret_int HE.out.symm, hbe⟩
              · have h' : ¬ d < s.first := by omega
                go_wp2_with fail
                go_ret; exact ⟨ret_int HE.out.symm, hbe⟩
            · have hd1 : ¬ d < s.first := by omega
              have hd2 : ¬ s.last < d := by omega
              have HXB := Lib.hid (show Tt.extB s d = !Tt.regB s d from Tt.extB_in s d hdf)
              clear hdf; go_wp2_with fail
              refine (HR.out d _ _ _ _ _ _ _).mono ?_
              rintro e w1 ⟨rfl, hb1⟩; have hbe1 := below_then hbe hb1; have HA1 := Lib.hid (HA.out.block (hb1.block _ hsz))
              cases hr : Tt.regB s d
              · have HE := Lib.hid (HX.out.trans (Tt.listF_step 11 _ _ 0 d HD.out HLT.out (by rw [HXB.out, hr]; rfl)))
                clear hr; go_wp2_with fail
                go_roundw
                case rel => exact ⟨0 + 1, by go_num, by omega, hbe1, HA1.out, HE.out⟩
                case measure => simp [intOf]; omega
              · have HE := Lib.hid ((Tt.serV_xt s HH.out 0 HX1.out HX.out).trans (Tt.listF_bad 11 _ _ 0 d HD.out HLT.out (by rw [HXB.out, hr]; rfl)))
                clear hr; go_wp2_with fail
                go_ret; exact ⟨ret_int HE.out.symm, hbe1⟩
          | succ j =>
            obtain ⟨q, hq⟩ : ∃ q, s.xt[j]? = some q := ⟨_, List.getElem?_eq_getElem (by omega)⟩
            obtain ⟨a', ha', _, hca'⟩ := HI'.out j q hq
            cases ha'
            have hc' := (hbe.cell (p := a.add j) (by rw [addr_add_block]; omega)).trans hca'
            rw [Addr.add_succ'] at hc
            clear hca'; by_cases hdq : d ≤ q
            · have HE := Lib.hid ((Tt.serV_xt s HH.out (j + 1) HX1.out HX.out).trans (Tt.listF_order 11 _ _ j d q hd hq hdq))
              clear hd hq; go_wp2_with fail
              go_ret; exact ⟨ret_int HE.out.symm, hbe⟩
            · have HLT := Lib.hid (show ∀ j' q', j + 1 = j' + 1 → s.xt[j']? = some q' → q' < d from fun j' q' h hq' => by
                obtain rfl : j = j' := by omega
                rw [hq] at hq'; cases hq'; omega)
              clear hd hq; by_cases hdf : d < s.first ∨ s.last < d
              · have HE := Lib.hid ((Tt.serV_xt s HH.out (j + 1) HX1.out HX.out).trans (Tt.listF_bad 11 _ _ (j + 1) d HD.out HLT.out (Tt.extB_out s d hdf)))
                rcases hdf with h | h
                · go_wp2_with fail
                  go_ret; exact ⟨ret_int HE.out.symm, hbe⟩
                · have h' : ¬ d < s.first := by omega
                  go_wp2_with fail
                  go_ret; exact ⟨ret_int HE.out.symm, hbe⟩
              · have hd1 : ¬ d < s.first := by omega
                have hd2 : ¬ s.last < d := by omega
                have HXB := Lib.hid (show Tt.extB s d = !Tt.regB s d from Tt.extB_in s d hdf)
                clear hdf; go_wp2_with fail
                refine (HR.out d _ _ _ _ _ _ _).mono ?_
                rintro e w1 ⟨rfl, hb1⟩; have hbe1 := below_then hbe hb1; have HA1 := Lib.hid (HA.out.block (hb1.block _ hsz))
                cases hr : Tt.regB s d
                · have HE := Lib.hid (HX.out.trans (Tt.listF_step 11 _ _ (j + 1) d HD.out HLT.out (by rw [HXB.out, hr]; rfl)))
                  clear hr; go_wp2_with fail
                  go_roundw
                  case rel => exact ⟨(j + 1) + 1, by go_num, by omega, hbe1, HA1.out, HE.out⟩
                  case measure => simp [intOf]; omega
                · have HE := Lib.hid ((Tt.serV_xt s HH.out (j + 1) HX1.out HX.out).trans (Tt.listF_bad 11 _ _ (j + 1) d HD.out HLT.out (by rw [HXB.out, hr]; rfl)))
                  clear hr; go_wp2_with fail
                  go_ret; exact ⟨ret_int HE.out.symm, hbe1⟩
        · have hki : ¬ (k : Int) < (s.xt.length : Int) := by omega
          have HE := Lib.hid ((Tt.serV_xt s HH.out k HX1.out HX.out).trans (Tt.listF_end 11 _ _ k (by omega)))
          go_wp2_with fail
          go_ret; exact ⟨ret_int HE.out.symm, hbe⟩

end Go.Proofs.YtageielcdebjlaaGreatDoor

-- SerV2
namespace Go.Proofs.YtageielcdebjlaaGreatDoor
open Go.RowKit

end Go.Proofs.YtageielcdebjlaaGreatDoor
-- Fold
namespace Go.Proofs.YtageielcdebjlaaGreatDoor
open Go.RowKit

end Go.Proofs.YtageielcdebjlaaGreatDoor

-- Text
namespace Go.Proofs.YtageielcdebjlaaGreatDoor
open Go.RowKit

/-- A row from block B on is as it was where another block alone has been written. -/
theorem ownsRow_only {w w' : World} {B b : Nat} {e : TypeId} {size : Nat} {v : Value} {n : Nat} {xs : List Value} (h : w.ownsRow B e size v n xs) (hb : b < B) (ho : Only b w w') : w'.ownsRow B e size v n xs := by
  refine ⟨h.1, ?_⟩
  rcases h.2 with h1 | ⟨g, cap, cur, r1, r2, r3, r4⟩
  · exact .inl h1
  · exact .inr ⟨g, cap, cur, r1, r2, (ho.2.2.2.2 g (by omega)).trans r3, r4⟩

theorem Only.but {b B : Nat} {w w' : World} (h : Only b w w') : But b B w w' := ⟨h.1, h.2.1, h.2.2.1, by rw [h.2.2.2.1]; exact Nat.le_refl _, fun k _ hk => h.2.2.2.2 k hk⟩

/-- The dice behind whatever keeps all below B but block b, and block b itself. -/
theorem Dice.but {b B : Nat} {w w' : World} (h : Dice b w) (hb : b < B) (hw : But b B w w') (hs : w'.heap[b]? = w.heap[b]?) : Dice b w' :=
  h.kept hb ⟨hw.os, hw.tape, hw.output, hw.size, fun k hk => by
    by_cases e : k = b
    · rw [e, hs]
    · exact hw.block k hk e⟩

theorem string_of_row {w : World} {B : Nat} {v : Value} {l : List UInt8} (h : w.ownsRow B 5 1 v l.length (Lib.byteCells l)) : (convert 76 9 v).run Tryz.prog w = .ok (.string ⟨l.toArray⟩) w := by
  rcases h.2 with ⟨hv, h0⟩ | ⟨g, cap, cur, hv, r2, r3, r4⟩
  · have : l = [] := List.eq_nil_of_length_eq_zero h0
    subst this; subst hv
    exact run_convert_bytes_nil w 76 5 Tryz.underlying76 Tryz.underlying5 0 0 9 Tryz.underlying9
  · subst hv; refine run_convert_bytes_back w 76 9 5 ⟨g, 0, none⟩ cap l Tryz.underlying76 Tryz.underlying5 Tryz.underlying9 (fun j hj => ?_)
    exact h.cells (g := g) rfl j _ (by simp [Lib.byteCells, hj])

set_option maxHeartbeats 4000000 in
set_option maxRecDepth 100000 in
theorem text_any (b : Nat) (sg : ByteArray) (m : Int) (w : World) (hd : Dice b w) (h1 : 1 ≤ sg.size) (h2 : sg.size ≤ 1000) (hm : 0 ≤ m) (hm2 : m ≤ 1000) :
    Calls Tryz.prog 34 #[.pointer (some ⟨b, 0, none⟩), .string sg, .int .i64 m] w fun e w' => ∃ x : List UInt8, e = .returned (.string ⟨x.toArray⟩) ∧ (x.length : Int) ≤ m ∧ (∀ c ∈ x, c ∈ sg.data.toList) ∧ Dice b w' ∧ But b w.heap.size w w' := by
  obtain ⟨i0, hi, hz0, hz1, hz2⟩ := info_parts infoByte
  have hblt := hd.lt; go_enter Tryz.func34, Tryz.ntmps34
  go_wp2_with fail
  refine (next_any b (m + 1) _ hd (by omega) (by omega)).mono ?_
  rintro e w1 ⟨v0, rfl, hv0, hv1, _, hd1, ho1⟩; have hv2 : v0 ≤ m := by have := hv1 (by omega); omega
  obtain ⟨k0, rfl⟩ : ∃ k0 : Nat, v0 = k0 := ⟨v0.toNat, by omega⟩
  have hs1 : w.heap.size ≤ w1.heap.size := by rw [ho1.2.2.2.1]; exact Nat.le_refl _
  clear hv1 hv0; go_wp2_with fail
  go_loopw [7, 8] (fun v n wr => ∃ (k : Nat) (acc : List UInt8), n = .int .i64 k ∧ (acc.length : Int) + k ≤ m ∧ wr.ownsRow w.heap.size 5 1 v acc.length (Lib.byteCells acc) ∧ (∀ c ∈ acc, c ∈ sg.data.toList) ∧ Dice b wr ∧ But b w.heap.size w wr) (fun _ n _ => (intOf n).toNat)
  case atStart => exact ⟨k0, [], rfl, by simpa using hv2, World.ownsRow_nil _ _ _ _, by simp, hd1, ho1.but⟩
  case round =>
    clear hv2 hd1 ho1 hs1; obtain ⟨k, acc, rfl, hk, hown, hin, hdr, hbut⟩ := hrel; have hsz := hbut.size; by_cases hlt : 0 < k
    · go_wp2_with fail
      refine (next_any b sg.size _ hdr (by omega) (by omega)).mono ?_
      rintro e w2 ⟨v1, rfl, hv0, hv1, _, hd2, ho2⟩; have hv2 := hv1 (by omega)
      obtain ⟨j, rfl⟩ : ∃ j : Nat, v1 = j := ⟨v1.toNat, by omega⟩
      have hown2 := ownsRow_only hown hblt ho2; have hlt2 : j < sg.size := by omega
      obtain ⟨c, hx⟩ : ∃ c : UInt8, sg[j]'hlt2 = c := ⟨_, rfl⟩
      have HC := Lib.hid (show c ∈ sg.data.toList from by
        have := Lib.data_getElem? sg j hlt2
        rw [hx] at this
        exact List.mem_of_getElem? this)
      have hbut2 := hbut.trans (ho2.but (B := w.heap.size))
      have hsz2 := hbut2.size; clear hv1 ho2; go_wp2_with (at_builtin; refine wpList_append_own _ rfl _ _ 76 rfl w.heap.size 5 i0 (.int .u8 0) 1 1 Tryz.underlying76 hi hz0 hz1 hz2 rfl (by decide) _ _ _ rfl (hown2.alloc _) ⟨w2.heap.size, 0, none⟩ 1 1 [.int .u8 c.toNat] rfl rfl ?c1 ?c2 ?c3 ?c4 ?c5 ?_)
      case c1 =>
        intro j u hj; match j, hj with
        | 0, hj => simp at hj; subst hj; simp [Addr.add]
      case c2 => intro u hu; simp at hu; subst hu; rfl
      case c3 => unfold maxLen; omega
      case c4 => omega
      case c5 => simp; omega
      intro v' w3 hown' hgrow _; have hblk : ∀ i, i < w.heap.size → w3.heap[i]? = w2.heap[i]? := by
        intro i hi; rw [hgrow.block i (by simp; omega) (by intro e; have := (hown2.lt i e.symm).1; omega), Lib.alloc_old w2 _ i (by omega)]
      have hbel : Below w.heap.size w2 w3 := ⟨hgrow.os, hgrow.tape, hgrow.output, by have := hgrow.size; simp at this; omega, hblk⟩
      have hd3 := hd2.kept hblt hbel; have hbut3 := hbut2.trans (But.of_below hbel)
      clear hgrow hblk hbel hown hown2 hdr hbut hd2; go_wp2_with fail
      go_roundw
      case rel =>
        refine ⟨k - 1, acc ++ [c], by go_num, by simp; omega, by simpa [Lib.byteCells] using hown', ?_, hd3, hbut3⟩
        intro x hx; rcases List.mem_append.1 hx with h | h
        · exact hin x h
        · simp at h; subst h; exact HC.out
      case measure => simp [intOf]; omega
    · have hcv := string_of_row hown; go_wp2_with fail
      go_ret; exact ⟨acc, rfl, by omega, hin, hdr, hbut⟩

end Go.Proofs.YtageielcdebjlaaGreatDoor

-- Same
namespace Go.Proofs.YtageielcdebjlaaGreatDoor
open Go.RowKit

/-- The strings of a slice that begins at 'ao'. -/
def StrAt (w : World) (ao : Option Addr) (xs : List ByteArray) : Prop := ∀ j x, xs[j]? = some x → ∃ a, ao = some a ∧ w.cell? (a.add j) = some (.string x)

end Go.Proofs.YtageielcdebjlaaGreatDoor
-- CrLf
namespace Go.Proofs.YtageielcdebjlaaGreatDoor
open Go.RowKit

end Go.Proofs.YtageielcdebjlaaGreatDoor

-- CrLf2
namespace Go.Proofs.YtageielcdebjlaaGreatDoor
open Go.RowKit

end Go.Proofs.YtageielcdebjlaaGreatDoor

-- CrLf3
namespace Go.Proofs.YtageielcdebjlaaGreatDoor
open Go.RowKit

end Go.Proofs.YtageielcdebjlaaGreatDoor

-- Bytes2
namespace Tt

end Tt

-- Unfold
namespace Go.Proofs.YtageielcdebjlaaGreatDoor
open Go.RowKit

theorem ownsRow_below {w w' : World} {B : Nat} {e : TypeId} {size : Nat} {v : Value} {n : Nat} {xs : List Value} (h : w.ownsRow B e size v n xs) (ho : Below w.heap.size w w') : w'.ownsRow B e size v n xs := by
  refine ⟨h.1, ?_⟩
  rcases h.2 with h1 | ⟨g, cap, cur, r1, r2, r3, r4⟩
  · exact .inl h1
  · exact .inr ⟨g, cap, cur, r1, r2, (ho.block g (Array.getElem?_eq_some_iff.1 r3).1).trans r3, r4⟩

theorem cell_one (w : World) (v : Value) (e : TypeId) : ∀ (j : Nat) (u : Value), [v][j]? = some u → (w.alloc (.cells #[v] e)).cell? ((⟨w.heap.size, 0, none⟩ : Addr).add j) = some u := by
  intro j u hj; match j, hj with
  | 0, hj =>
    simp at hj; subst hj
    simp only [Addr.add, if_true]
    rw [World.cell?_alloc_at _ _ _ _ rfl]; rfl

end Go.Proofs.YtageielcdebjlaaGreatDoor
