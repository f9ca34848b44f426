/- Series of days: contracts of the small functions of calendar and recurrence, and of their references. -/
import Derived.Test.YtageielcdebjlaaGreatDoorDice
import Derived.Test.YtageielcdebjlaaGreatDoorSer
import Derived.Test.YtageielcdebjlaaGreatDoorCodes
import Derived.Below
import Derived.Laws.BitsLemmas
import Derived.Outline
namespace Go.Proofs.YtageielcdebjlaaGreatDoor
open Go.RowKit

set_option maxHeartbeats 400000 in
theorem isD192 (n : Int) (w : World) : Calls Tryz.prog 192 #[.int .i64 n] w fun e w' => e = .returned (.bool (Tt.isD n)) ∧ w' = w := by
  have HD := Lib.hid (show Tt.isD n = (decide (0 ≤ n) && decide (n ≤ 36524)) from rfl)
  go_enter Tryz.func192, Tryz.ntmps192
  go_wp2_with fail
  all_goals
    go_ret
    exact ⟨ret_bool (by rw [HD.out]; simp; omega), rfl⟩

set_option maxHeartbeats 400000 in
theorem isD206 (n : Int) (w : World) : Calls Tryz.prog 206 #[.int .i64 n] w fun e w' => e = .returned (.bool (Tt.isD n)) ∧ w' = w := by
  have HD := Lib.hid (show Tt.isD n = (decide (0 ≤ n) && decide (n ≤ 36524)) from rfl)
  go_enter Tryz.func206, Tryz.ntmps206
  go_wp2_with fail
  all_goals
    go_ret
    exact ⟨ret_bool (by rw [HD.out]; simp; omega), rfl⟩

set_option maxHeartbeats 400000 in
theorem isD210 (n : Int) (w : World) : Calls Tryz.prog 210 #[.int .i64 n] w fun e w' => e = .returned (.bool (Tt.isD n)) ∧ w' = w := by
  have HD := Lib.hid (show Tt.isD n = (decide (0 ≤ n) && decide (n ≤ 36524)) from rfl)
  go_enter Tryz.func210, Tryz.ntmps210
  go_wp2_with fail
  all_goals
    go_ret
    exact ⟨ret_bool (by rw [HD.out]; simp; omega), rfl⟩

set_option maxHeartbeats 400000 in
theorem isD215 (n : Int) (w : World) : Calls Tryz.prog 215 #[.int .i64 n] w fun e w' => e = .returned (.bool (Tt.isD n)) ∧ w' = w := by
  have HD := Lib.hid (show Tt.isD n = (decide (0 ≤ n) && decide (n ≤ 36524)) from rfl)
  go_enter Tryz.func215, Tryz.ntmps215
  go_wp2_with fail
  all_goals
    go_ret
    exact ⟨ret_bool (by rw [HD.out]; simp; omega), rfl⟩

set_option maxHeartbeats 400000 in
theorem wkd191 (n : Int) (w : World) (h : Tt.isD n = true) : Calls Tryz.prog 191 #[.int .i64 n] w fun e w' => e = .returned (.int .i64 (Tt.wk n)) ∧ w' = w := by
  have hb := (Tt.isD_iff n).1 h
  have H := Lib.hid h
  clear h
  go_enter Tryz.func191, Tryz.ntmps191
  go_wp2_with (go_at_call 192; refine (isD192 _ _).mono ?_; rintro e w' ⟨rfl, rfl⟩; rw [H.out])
  go_ret
  exact ⟨rfl, rfl⟩

set_option maxHeartbeats 400000 in
theorem wkd191_not (n : Int) (w : World) (h : Tt.isD n = false) : Calls Tryz.prog 191 #[.int .i64 n] w fun e w' => e = .returned (.int .i64 (-1)) ∧ w' = w := by
  have H := Lib.hid h
  clear h
  go_enter Tryz.func191, Tryz.ntmps191
  go_wp2_with (go_at_call 192; refine (isD192 _ _).mono ?_; rintro e w' ⟨rfl, rfl⟩; rw [H.out])
  go_ret
  exact ⟨rfl, rfl⟩

set_option maxHeartbeats 400000 in
theorem wkd209 (n : Int) (w : World) (h : Tt.isD n = true) : Calls Tryz.prog 209 #[.int .i64 n] w fun e w' => e = .returned (.int .i64 (Tt.wk n)) ∧ w' = w := by
  have hb := (Tt.isD_iff n).1 h
  have H := Lib.hid h
  clear h
  go_enter Tryz.func209, Tryz.ntmps209
  go_wp2_with (go_at_call 210; refine (isD210 _ _).mono ?_; rintro e w' ⟨rfl, rfl⟩; rw [H.out])
  go_ret
  exact ⟨rfl, rfl⟩

set_option maxHeartbeats 400000 in
theorem wkd209_not (n : Int) (w : World) (h : Tt.isD n = false) : Calls Tryz.prog 209 #[.int .i64 n] w fun e w' => e = .returned (.int .i64 (-1)) ∧ w' = w := by
  have H := Lib.hid h
  clear h
  go_enter Tryz.func209, Tryz.ntmps209
  go_wp2_with (go_at_call 210; refine (isD210 _ _).mono ?_; rintro e w' ⟨rfl, rfl⟩; rw [H.out])
  go_ret
  exact ⟨rfl, rfl⟩

set_option maxHeartbeats 400000 in
theorem monday264 (n : Int) (w : World) (h : Tt.isD n = true) : Calls Tryz.prog 264 #[.int .i64 n] w fun e w' => e = .returned (.int .i64 (n - Tt.wk n)) ∧ w' = w := by
  have hb := (Tt.isD_iff n).1 h
  have hw := Tt.wk_bd n
  have H := Lib.hid h
  clear h
  go_enter Tryz.func264, Tryz.ntmps264
  go_wp2_with (go_at_call 209; refine (wkd209 _ _ H.out).mono ?_; rintro e w' ⟨rfl, rfl⟩)
  go_ret
  exact ⟨rfl, rfl⟩

theorem and_one (x : Int) (h0 : 0 ≤ x) (h1 : x < 4611686018427387904) : bits .and .i64 x 1 = x % 2 := by
  have := bits_mask .i64 62 (by decide) (fun n h0 h1 => by rw [IntKind.wrap_i64]; omega) 1 (by decide) x h0 (by simpa using h1)
  simpa using this

theorem shr_bd (m k : Int) (h0 : 0 ≤ m) (h1 : m < 4611686018427387904) : 0 ≤ m / 2 ^ k.toNat ∧ m / 2 ^ k.toNat < 4611686018427387904 := by
  have hp : (0 : Int) < 2 ^ k.toNat := Int.pow_pos (by decide)
  refine ⟨Int.ediv_nonneg h0 (by omega), ?_⟩
  have := Int.ediv_le_self (2 ^ k.toNat) h0
  omega

theorem bit_and (m k : Int) (h0 : 0 ≤ m) (h1 : m < 4611686018427387904) : bits .and .i64 (m / 2 ^ k.toNat) 1 = m / 2 ^ k.toNat % 2 := by
  obtain ⟨a, b⟩ := shr_bd m k h0 h1
  exact and_one _ a b

theorem bit_not (m k : Int) (h0 : 0 ≤ m) (h1 : m < 4611686018427387904) : (bits .and .i64 (m / 2 ^ k.toNat) 1 == 0) = !Tt.bit m k := by
  rw [bit_and m k h0 h1]
  unfold Tt.bit
  rcases (show m / 2 ^ k.toNat % 2 = 0 ∨ m / 2 ^ k.toNat % 2 = 1 by omega) with e | e
  · rw [e]; rfl
  · rw [e]; rfl

theorem bit_is (m k : Int) (h0 : 0 ≤ m) (h1 : m < 4611686018427387904) : (bits .and .i64 (m / 2 ^ k.toNat) 1 == 1) = Tt.bit m k := by
  rw [bit_and m k h0 h1]
  unfold Tt.bit
  rcases (show m / 2 ^ k.toNat % 2 = 0 ∨ m / 2 ^ k.toNat % 2 = 1 by omega) with e | e
  · rw [e]; rfl
  · rw [e]; rfl

theorem below_then {w w1 w2 : World} (h : Below w.heap.size w w1) (k : Below w1.heap.size w1 w2) : Below w.heap.size w w2 := h.trans (k.mono h.size)
theorem below_drew {w w1 : World} {B q : Nat} (h : Below B w w1) : Below B w (w1.drewN q) := h.trans ⟨rfl, rfl, rfl, Nat.le_refl _, fun _ _ => rfl⟩
theorem below_drw {w w1 : World} {B : Nat} (h : Below B w w1) : Below B w w1.drew := h.trans ⟨rfl, rfl, rfl, Nat.le_refl _, fun _ _ => rfl⟩
theorem redrew (w : World) (n : Nat) : ∃ w2 : World, w2 = w.drewN n ∧ (∀ B : Nat, Below B w w2) ∧ (∀ p : Addr, w2.cell? p = w.cell? p) ∧ ∀ b : Nat, w2.heap[b]? = w.heap[b]? :=
  ⟨_, rfl, fun _ => ⟨rfl, rfl, rfl, Nat.le_refl _, fun _ _ => rfl⟩, fun _ => World.cell?_of_block (w := w) rfl, fun _ => rfl⟩
theorem below_box (w : World) (o : Obj) : Below w.heap.size w (w.alloc o) := (Below.refl _ w).alloc (Nat.le_refl _) _

set_option maxHeartbeats 1000000 in
theorem counts280 (f l e m d : Int) (x y : Value) (w : World) (hf : Tt.isD f = true) (hd : Tt.isD d = true) (hfd : f ≤ d) (he0 : 1 ≤ e) (he1 : e ≤ 4) (ao ao' : Option Addr) (n n' c c' : Nat) (hx : x = .slice ao n c) (hy : y = .slice ao' n' c') :
    Calls Tryz.prog 280 #[.agg #[.int .i64 f, .int .i64 l, .int .i64 e, .int .i64 m, x, y], .int .i64 d] w fun e' w' => e' = .returned (.bool (Tt.cnt f e d)) ∧ Below w.heap.size w w' := by
  have hb := (Tt.isD_iff d).1 hd
  have hb2 := (Tt.isD_iff f).1 hf
  have hw := Tt.wk_bd d
  have hw2 := Tt.wk_bd f
  have hm := Tt.monday_le f d hfd
  have H := Lib.hid hd
  have H2 := Lib.hid hf
  have HC := Lib.hid (show Tt.cnt f e d = decide (((d - Tt.wk d) - (f - Tt.wk f)) / 7 % e = 0) from rfl)
  clear hd hf
  subst hx hy
  go_enter Tryz.func280, Tryz.ntmps280
  go_wp2_with (go_at_call 191; refine (wkd191 _ _ H.out).mono ?_; rintro e w' ⟨rfl, rfl⟩)
  go_quiet ((go_at_call 191; exact Calls.quiet_of_same (wkd191 _ _ H2.out)))
  go_wp2_with fail
  go_ret
  exact ⟨ret_bool (by rw [HC.out]; rfl), below_drew (below_box _ _)⟩

set_option maxHeartbeats 2000000 in
theorem regular220 (s : Tt.Ser) (d : Int) (w : World) (hf : Tt.isD s.first = true) (hd : Tt.isD d = true) (h1 : s.first ≤ d) (h2 : d ≤ s.last) (he0 : 1 ≤ s.every) (he1 : s.every ≤ 4) (hw0 : 0 ≤ s.wd) (hw1 : s.wd ≤ 127) (ao ao' : Option Addr) (n n' c c' : Nat) :
    Calls Tryz.prog 220 #[.agg #[.int .i64 s.first, .int .i64 s.last, .int .i64 s.every, .int .i64 s.wd, .slice ao n c, .slice ao' n' c'], .int .i64 d] w fun e' w' => e' = .returned (.bool (Tt.regB s d)) ∧ Below w.heap.size w w' := by
  have hb := (Tt.isD_iff d).1 hd
  have hw := Tt.wk_bd d
  have H := Lib.hid hd
  have H2 := Lib.hid hf
  obtain ⟨f, l, e, m, ex, xt⟩ := s
  simp only at *
  clear hd hf
  have d1 : decide (d < f) = false := decide_eq_false (by omega)
  have d2 : decide (l < d) = false := decide_eq_false (by omega)
  have HB := Lib.hid (bit_not m (Tt.wk d) hw0 (by omega))
  have HR := Lib.hid (show Tt.regB ⟨f, l, e, m, ex, xt⟩ d = (Tt.bit m (Tt.wk d) && Tt.cnt f e d) by
    unfold Tt.regB; simp only; rw [decide_eq_true h1, decide_eq_true h2]; rfl)
  go_enter Tryz.func220, Tryz.ntmps220
  go_wp2_with fail
  go_quiet ((go_at_call 191; exact Calls.quiet_of_same (wkd191 _ _ H.out)))
  rw [HB.out]
  cases hb1 : Tt.bit m (Tt.wk d)
  · go_wp2_with fail
    go_ret
    exact ⟨ret_bool (by rw [HR.out, hb1]; rfl), below_drew (below_box _ _)⟩
  · go_wp2_with fail
    refine (counts280 _ _ _ _ _ _ _ _ H2.out H.out h1 he0 he1 _ _ _ _ _ _ rfl rfl).mono ?_
    rintro e w1 ⟨rfl, hb2⟩
    go_wp2_with fail
    go_ret
    exact ⟨ret_bool (by rw [HR.out, hb1]; rfl), below_then (below_drew (below_box _ _)) hb2⟩

set_option maxHeartbeats 4000000 in
theorem regular187 (s : Tt.Ser) (d : Int) (w : World) (hf : Tt.isD s.first = true) (hd : Tt.isD d = true) (h1 : s.first ≤ d) (h2 : d ≤ s.last) (he0 : 1 ≤ s.every) (he1 : s.every ≤ 4) (hw0 : 0 ≤ s.wd) (hw1 : s.wd ≤ 127) (ao ao' : Option Addr) (n n' c c' : Nat) :
    Calls Tryz.prog 187 #[.agg #[.int .i64 s.first, .int .i64 s.last, .int .i64 s.every, .int .i64 s.wd, .slice ao n c, .slice ao' n' c'], .int .i64 d] w fun e' w' => e' = .returned (.bool (Tt.regB s d)) ∧ Below w.heap.size w w' := by
  have hb := (Tt.isD_iff d).1 hd
  have hb2 := (Tt.isD_iff s.first).1 hf
  have hw := Tt.wk_bd d
  have hw2 := Tt.wk_bd s.first
  have hm := Tt.monday_le s.first d h1
  have H := Lib.hid hd
  have H2 := Lib.hid hf
  obtain ⟨f, l, e, m, ex, xt⟩ := s
  simp only at *
  clear hd hf
  have HB := Lib.hid (bit_is m (Tt.wk d) hw0 (by omega))
  have HR := Lib.hid (show Tt.regB ⟨f, l, e, m, ex, xt⟩ d = (Tt.bit m (Tt.wk d) && Tt.cnt f e d) by
    unfold Tt.regB; simp only; rw [decide_eq_true h1, decide_eq_true h2]; rfl)
  cases hb1 : Tt.bit m (Tt.wk d)
  · have hbb : (bits .and .i64 (m / 2 ^ (Tt.wk d).toNat) 1 == 1) = false := by rw [HB.out, hb1]
    clear hb1
    go_enter Tryz.func187, Tryz.ntmps187
    go_wp2_with fail
    go_quiet ((first | (go_at_call 209; exact Calls.quiet_of_same (wkd209 _ _ H.out))))
    go_wp2_with fail
    go_ret
    exact ⟨ret_bool (by rw [HR.out, ← HB.out, hbb]; rfl), below_drew (below_box _ _)⟩
  · have hbb : (bits .and .i64 (m / 2 ^ (Tt.wk d).toNat) 1 == 1) = true := by rw [HB.out, hb1]
    clear hb1
    go_enter Tryz.func187, Tryz.ntmps187
    go_wp2_with fail
    go_quiet ((first | (go_at_call 209; exact Calls.quiet_of_same (wkd209 _ _ H.out)) | (go_at_call 264; exact Calls.quiet_of_same (monday264 _ _ (by first | exact H.out | exact H2.out)))))
    go_wp2_with fail
    go_ret
    exact ⟨ret_bool (by rw [HR.out, ← HB.out, hbb]; rfl), below_drew (below_box _ _)⟩

set_option maxHeartbeats 2000000 in
theorem regular220_out (s : Tt.Ser) (d : Int) (w : World) (h1 : d < s.first ∨ s.last < d) (ao ao' : Option Addr) (n n' c c' : Nat) :
    Calls Tryz.prog 220 #[.agg #[.int .i64 s.first, .int .i64 s.last, .int .i64 s.every, .int .i64 s.wd, .slice ao n c, .slice ao' n' c'], .int .i64 d] w fun e' w' => e' = .returned (.bool (Tt.regB s d)) ∧ Below w.heap.size w w' := by
  obtain ⟨f, l, e, m, ex, xt⟩ := s
  simp only at *
  have HR := Lib.hid (show Tt.regB ⟨f, l, e, m, ex, xt⟩ d = false by
    unfold Tt.regB; simp only
    rcases h1 with h | h
    · rw [decide_eq_false (by omega)]; rfl
    · rw [decide_eq_false (show ¬ d ≤ l by omega)]; simp)
  by_cases h2 : d < f
  · have d1 : decide (d < f) = true := decide_eq_true h2
    have d3 : decide (f ≤ d) = false := decide_eq_false (by omega)
    clear h1
    go_enter Tryz.func220, Tryz.ntmps220
    go_wp2_with fail
    go_quiet (fail)
    go_wp2_with fail
    go_ret
    exact ⟨ret_bool (by rw [HR.out]), below_drew (below_box _ _)⟩
  · have d1 : decide (d < f) = false := decide_eq_false h2
    have d3 : decide (f ≤ d) = true := decide_eq_true (by omega)
    have d2 : decide (l < d) = true := decide_eq_true (by omega)
    have d4 : decide (d ≤ l) = false := decide_eq_false (by omega)
    clear h1
    go_enter Tryz.func220, Tryz.ntmps220
    go_wp2_with fail
    go_quiet (fail)
    go_wp2_with fail
    go_ret
    exact ⟨ret_bool (by rw [HR.out]), below_drew (below_box _ _)⟩

theorem regular220_any (s : Tt.Ser) (d : Int) (w : World) (hf : Tt.isD s.first = true) (hl : Tt.isD s.last = true) (he0 : 1 ≤ s.every) (he1 : s.every ≤ 4) (hw0 : 0 ≤ s.wd) (hw1 : s.wd ≤ 127) (ao ao' : Option Addr) (n n' c c' : Nat) :
    Calls Tryz.prog 220 #[.agg #[.int .i64 s.first, .int .i64 s.last, .int .i64 s.every, .int .i64 s.wd, .slice ao n c, .slice ao' n' c'], .int .i64 d] w fun e' w' => e' = .returned (.bool (Tt.regB s d)) ∧ Below w.heap.size w w' := by
  by_cases h : d < s.first ∨ s.last < d
  · exact regular220_out s d w h _ _ _ _ _ _
  · refine regular220 s d w hf ?_ (by omega) (by omega) he0 he1 hw0 hw1 _ _ _ _ _ _
    rw [Tt.isD_iff] at *; omega

set_option maxHeartbeats 2000000 in
theorem regular187_out (s : Tt.Ser) (d : Int) (w : World) (h1 : d < s.first ∨ s.last < d) (ao ao' : Option Addr) (n n' c c' : Nat) :
    Calls Tryz.prog 187 #[.agg #[.int .i64 s.first, .int .i64 s.last, .int .i64 s.every, .int .i64 s.wd, .slice ao n c, .slice ao' n' c'], .int .i64 d] w fun e' w' => e' = .returned (.bool (Tt.regB s d)) ∧ Below w.heap.size w w' := by
  obtain ⟨f, l, e, m, ex, xt⟩ := s
  simp only at *
  have HR := Lib.hid (show Tt.regB ⟨f, l, e, m, ex, xt⟩ d = false by
    unfold Tt.regB; simp only
    rcases h1 with h | h
    · rw [decide_eq_false (by omega)]; rfl
    · rw [decide_eq_false (show ¬ d ≤ l by omega)]; simp)
  by_cases h2 : d < f
  · have d1 : decide (d < f) = true := decide_eq_true h2
    have d3 : decide (f ≤ d) = false := decide_eq_false (by omega)
    clear h1
    go_enter Tryz.func187, Tryz.ntmps187
    go_wp2_with fail
    go_quiet (fail)
    go_wp2_with fail
    go_ret
    exact ⟨ret_bool (by rw [HR.out]), below_drew (below_box _ _)⟩
  · have d1 : decide (d < f) = false := decide_eq_false h2
    have d3 : decide (f ≤ d) = true := decide_eq_true (by omega)
    have d2 : decide (l < d) = true := decide_eq_true (by omega)
    have d4 : decide (d ≤ l) = false := decide_eq_false (by omega)
    clear h1
    go_enter Tryz.func187, Tryz.ntmps187
    go_wp2_with fail
    go_quiet (fail)
    go_wp2_with fail
    go_ret
    exact ⟨ret_bool (by rw [HR.out]), below_drew (below_box _ _)⟩

theorem regular187_any (s : Tt.Ser) (d : Int) (w : World) (hf : Tt.isD s.first = true) (hl : Tt.isD s.last = true) (he0 : 1 ≤ s.every) (he1 : s.every ≤ 4) (hw0 : 0 ≤ s.wd) (hw1 : s.wd ≤ 127) (ao ao' : Option Addr) (n n' c c' : Nat) :
    Calls Tryz.prog 187 #[.agg #[.int .i64 s.first, .int .i64 s.last, .int .i64 s.every, .int .i64 s.wd, .slice ao n c, .slice ao' n' c'], .int .i64 d] w fun e' w' => e' = .returned (.bool (Tt.regB s d)) ∧ Below w.heap.size w w' := by
  by_cases h : d < s.first ∨ s.last < d
  · exact regular187_out s d w h _ _ _ _ _ _
  · refine regular187 s d w hf ?_ (by omega) (by omega) he0 he1 hw0 hw1 _ _ _ _ _ _
    rw [Tt.isD_iff] at *; omega
end Go.Proofs.YtageielcdebjlaaGreatDoor
