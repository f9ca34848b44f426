/- feed's parser: see, take, number; DeleteFunc where nothing is deleted. -/
import Derived.Test.YtageielcdebjlaaGreatDoorFormat
namespace Go.Proofs.YtageielcdebjlaaGreatDoor
open Go.RowKit

/-- A parser at block b: the lines that are left, and whether something was bad. -/
structure Par (b g o cap : Nat) (xs : List ByteArray) (z : ByteArray) (bad : Bool) (w : World) : Prop where
  hb : w.heap[b]? = some (.cells #[.slice (some ⟨g, o, none⟩) xs.length cap, .string z, .bool bad] 160 (0, 0))
  str : StrAt w (some ⟨g, o, none⟩) xs
  le : xs.length ≤ cap
  ne : g ≠ b

theorem Par.c0 {b g o cap : Nat} {xs : List ByteArray} {z : ByteArray} {bad : Bool} {w : World} (h : Par b g o cap xs z bad w) : w.cell? ⟨b, 0, none⟩ = some (.slice (some ⟨g, o, none⟩) xs.length cap) := by rw [Lib.cell_of_heap h.hb]; rfl
theorem Par.c2 {b g o cap : Nat} {xs : List ByteArray} {z : ByteArray} {bad : Bool} {w : World} (h : Par b g o cap xs z bad w) : w.cell? ⟨b, 2, none⟩ = some (.bool bad) := by rw [Lib.cell_of_heap h.hb]; rfl
theorem Par.f0 {b g o cap : Nat} {xs : List ByteArray} {z : ByteArray} {bad : Bool} {w : World} (h : Par b g o cap xs z bad w) (i : Nat) : w.frozen? ⟨b, i, none⟩ = false := Lib.frozen_of_heap h.hb i
theorem Par.hd {b g o cap : Nat} {x : ByteArray} {xs : List ByteArray} {z : ByteArray} {bad : Bool} {w : World} (h : Par b g o cap (x :: xs) z bad w) : w.cell? ⟨g, o, none⟩ = some (.string x) := by
  obtain ⟨a, ha, hc⟩ := h.str 0 x rfl
  cases ha
  simpa [Addr.add] using hc
theorem Par.lt {b g o cap : Nat} {xs : List ByteArray} {z : ByteArray} {bad : Bool} {w : World} (h : Par b g o cap xs z bad w) : b < w.heap.size := (Array.getElem?_eq_some_iff.1 h.hb).1

theorem addr_add2 (g o k : Nat) : (⟨g, o, none⟩ : Addr).add k = ⟨g, o + k, none⟩ := by
  unfold Addr.add
  split
  · simp [*]
  · simp

theorem strAt_tail {w w' : World} {g o o' : Nat} {x : ByteArray} {xs : List ByteArray} (h : StrAt w (some ⟨g, o, none⟩) (x :: xs)) (ho : o' = o + 1 ∨ xs = []) (hw : w'.heap[g]? = w.heap[g]?) : StrAt w' (some ⟨g, o', none⟩) xs := by
  intro j y hy
  rcases ho with rfl | rfl
  · obtain ⟨a, ha, hc⟩ := h (j + 1) y hy
    cases ha
    refine ⟨_, rfl, ?_⟩
    rw [addr_add2] at hc ⊢
    rw [World.cell?_of_block (w := w) (by simpa using hw), show o + 1 + j = o + (j + 1) by omega]
    exact hc
  · cases hy

theorem only_set (w : World) (b i : Nat) (v : Value) : Only b w (w.setCell ⟨b, i, none⟩ v) :=
  ⟨rfl, rfl, rfl, by simp [World.setCell], fun k hk => Below.heap_setCell _ _ _ _ hk⟩

set_option maxHeartbeats 4000000 in
set_option maxRecDepth 100000 in
theorem see_any (b g o cap : Nat) (x : ByteArray) (xs : List ByteArray) (z k : ByteArray) (bad : Bool) (w : World) (h : Par b g o cap (x :: xs) z bad w) :
    Calls Tryz.prog 107 #[.pointer (some ⟨b, 0, none⟩), .string k] w fun e w' => e = .returned (.tuple #[.string ⟨(Lib.trimPrefix x.data.toList k.data.toList).toArray⟩, .bool (Lib.hasPrefix x.data.toList k.data.toList)]) ∧ w' = w := by
  have c0 := h.c0
  have c1 := h.hd
  have hl2 : (((x :: xs).length : Int) == 0) = false := by rw [List.length_cons]; exact beq_eq_false_iff_ne.2 (by omega)
  have hl3 : (0 : Int) < ((x :: xs).length : Int) := by rw [List.length_cons]; omega
  go_enter Tryz.func107, Tryz.ntmps107
  go_wp2_with fail
  refine (Tryz.strings_CutPrefix _ _ _).mono ?_
  rintro e w1 ⟨rfl, hw⟩
  rw [hw]
  clear hw w1
  go_wp2_with fail
  go_ret2
  exact ⟨rfl, rfl⟩

set_option maxHeartbeats 4000000 in
set_option maxRecDepth 100000 in
theorem see_end (b g o cap : Nat) (z k : ByteArray) (bad : Bool) (w : World) (h : Par b g o cap [] z bad w) :
    Calls Tryz.prog 107 #[.pointer (some ⟨b, 0, none⟩), .string k] w fun e w' => e = .returned (.tuple #[.string ⟨#[]⟩, .bool false]) ∧ w' = w := by
  have c0 := h.c0
  go_enter Tryz.func107, Tryz.ntmps107
  go_wp2_with fail
  go_ret2
  exact ⟨rfl, rfl⟩

set_option maxHeartbeats 4000000 in
set_option maxRecDepth 100000 in
theorem take_any (b g o cap : Nat) (x : ByteArray) (xs : List ByteArray) (z k : ByteArray) (bad : Bool) (w : World) (hpar : Par b g o cap (x :: xs) z bad w) (hp : Lib.hasPrefix x.data.toList k.data.toList = true) :
    Calls Tryz.prog 105 #[.pointer (some ⟨b, 0, none⟩), .string k] w fun e w' => e = .returned (.string ⟨(Lib.trimPrefix x.data.toList k.data.toList).toArray⟩) ∧ (∃ o' cap', Par b g o' cap' xs z bad w') ∧ Only b w w' := by
  have c0 := hpar.c0
  have hl3 : (1 : Int) ≤ ((x :: xs).length : Int) := by rw [List.length_cons]; omega
  have hf := hpar.f0 0
  go_enter Tryz.func105, Tryz.ntmps105
  go_wp2_with fail
  refine (see_any b g o cap x xs z k bad w hpar).mono ?_
  rintro e w1 ⟨rfl, hw⟩
  rw [hw, hp]
  clear hw w1
  go_wp2_with fail
  · go_ret
    refine ⟨rfl, ⟨o, 0, ?_⟩, only_set _ _ _ _⟩
    have hx : xs = [] := by have := hpar.le; simp at this; apply List.eq_nil_of_length_eq_zero; omega
    exact ⟨by simp [World.setCell, Array.getElem?_modify, hpar.hb], strAt_tail hpar.str (.inr hx) (Below.heap_setCell _ _ _ _ hpar.ne), by rw [hx]; simp, hpar.ne⟩
  · go_ret
    refine ⟨rfl, ⟨o + 1, cap - 1, ?_⟩, only_set _ _ _ _⟩
    exact ⟨by simp [World.setCell, Array.getElem?_modify, hpar.hb], strAt_tail hpar.str (.inl rfl) (Below.heap_setCell _ _ _ _ hpar.ne), by have := hpar.le; simp at this; omega, hpar.ne⟩

theorem Par.below {b g o cap : Nat} {xs : List ByteArray} {z : ByteArray} {bad : Bool} {w w' : World} (h : Par b g o cap xs z bad w) (hw : Below w.heap.size w w') (hg : g < w.heap.size) : Par b g o cap xs z bad w' :=
  ⟨(hw.block b h.lt).trans h.hb, fun j x hx => by
    obtain ⟨a, ha, hc⟩ := h.str j x hx
    refine ⟨a, ha, ?_⟩
    cases ha
    rw [addr_add2] at hc ⊢
    exact (hw.cell (p := ⟨g, o + j, none⟩) hg).trans hc, h.le, h.ne⟩
theorem Par.set2 {b g o cap : Nat} {xs : List ByteArray} {z : ByteArray} {bad : Bool} {w : World} (h : Par b g o cap xs z bad w) (bad' : Bool) : Par b g o cap xs z bad' (w.setCell ⟨b, 2, none⟩ (.bool bad')) :=
  ⟨by simp [World.setCell, Array.getElem?_modify, h.hb], fun j x hx => by
    obtain ⟨a, ha, hc⟩ := h.str j x hx
    refine ⟨a, ha, ?_⟩
    cases ha
    rw [addr_add2] at hc ⊢
    rw [World.cell?_of_block (w := w) (Below.heap_setCell _ _ _ _ h.ne)]
    exact hc, h.le, h.ne⟩

set_option maxHeartbeats 4000000 in
set_option maxRecDepth 100000 in
theorem number_any (b g o cap : Nat) (xs : List ByteArray) (z s : ByteArray) (n : Int) (hl : s.size ≤ 18) (ha : Lib.atoi s.data.toList = some n) (w : World) (hpar : Par b g o cap xs z false w) (hg : g < w.heap.size) :
    Calls Tryz.prog 106 #[.pointer (some ⟨b, 0, none⟩), .string s] w fun e w' => e = .returned (.int .i64 n) ∧ Par b g o cap xs z false w' ∧ But b w.heap.size w w' := by
  go_enter Tryz.func106, Tryz.ntmps106
  go_wp2_with fail
  refine (Tryz.strconv_Atoi s n hl ha w).mono ?_
  rintro e w1 ⟨rfl, t, hw⟩
  have hbel : Below w.heap.size w w1 := by rw [hw]; exact ⟨rfl, rfl, rfl, by rw [Lib.bytesWorld_size]; omega, fun k hk => Lib.bytesWorld_at_old w 5 t k hk⟩
  clear hw
  have hp1 := hpar.below hbel hg
  have c2 := hp1.c2
  have hf := hp1.f0 2
  clear hpar
  go_wp2_with fail
  go_ret
  refine ⟨rfl, hp1.set2 false, ?_⟩
  exact (But.of_below (b := b) hbel).trans ((only_set w1 b 2 (.bool false)).but)

set_option maxRecDepth 100000 in
theorem minus_any (s : ByteArray) (w : World) :
    Calls Tryz.prog 103 #[.string s] w fun e w' => e = .returned (.bool (Lib.hasPrefix s.data.toList [88, 45])) ∧ w' = w := by
  go_enter Tryz.func103, Tryz.ntmps103
  go_wp2_with fail
  refine (Tryz.strings_HasPrefix _ _ _).mono ?_
  rintro e w2 ⟨rfl, hw⟩
  rw [hw]
  clear hw w2
  go_wp2_with fail
  go_ret
  exact ⟨rfl, rfl⟩

set_option maxHeartbeats 4000000 in
set_option maxRecDepth 100000 in
theorem index_none (ao : Option Addr) (c : Nat) (xs : List ByteArray) (w : World) (hn : xs.length ≤ 9223372036854775806) (h1 : StrAt w ao xs) (hx : ∀ x ∈ xs, Lib.hasPrefix x.data.toList [88, 45] = false) :
    Calls Tryz.prog 174 #[.slice ao xs.length c, .func (.func 103) #[] #[]] w fun e w' => e = .returned (.int .i64 (-1)) ∧ ∃ q, w' = w.drewN q := by
  have HX := Lib.hid hx
  have H1 := Lib.hid h1
  clear hx h1
  go_enter Tryz.func174, Tryz.ntmps174
  go_wp2_with fail
  go_loopw [8] (fun i wr => ∃ k q : Nat, k ≤ xs.length ∧ i = .int .i64 k ∧ wr = w.drewN q) (fun i _ => xs.length - (intOf i).toNat)
  case atStart => exact ⟨0, 0, Nat.zero_le _, rfl, rfl⟩
  case round =>
    obtain ⟨k, q, hk, rfl, rfl⟩ := hrel
    by_cases hlt : k < xs.length
    · obtain ⟨x, hx⟩ : ∃ x, xs[k]? = some x := ⟨_, List.getElem?_eq_getElem hlt⟩
      obtain ⟨a, rfl, ha⟩ := H1.out k x hx
      have hp := HX.out x (List.mem_of_getElem? hx)
      have hki : (k : Int) < (xs.length : Int) := by omega
      clear hx
      go_wp2_with fail
      refine (minus_any _ _).mono ?_
      rintro e w2 ⟨rfl, hw⟩
      rw [hw, hp]
      clear hw w2
      go_wp2_with fail
      go_roundw
      case rel => exact ⟨k + 1, _, by omega, by go_num, rfl⟩
      case measure => simp [intOf]; omega
    · go_wp2_with fail
      go_ret
      exact ⟨rfl, _, rfl⟩

set_option maxHeartbeats 4000000 in
set_option maxRecDepth 100000 in
theorem delete_none (ao : Option Addr) (c : Nat) (xs : List ByteArray) (w : World) (hn : xs.length ≤ 9223372036854775806) (h1 : StrAt w ao xs) (hx : ∀ x ∈ xs, Lib.hasPrefix x.data.toList [88, 45] = false) :
    Calls Tryz.prog 102 #[.slice ao xs.length c, .func (.func 103) #[] #[]] w fun e w' => e = .returned (.slice ao xs.length c) ∧ ∃ q, w' = w.drewN q := by
  have HI := Lib.hid (index_none ao c xs w hn h1 hx)
  clear h1 hx
  go_enter Tryz.func102, Tryz.ntmps102
  go_wp2_with fail
  refine HI.out.mono ?_
  rintro e w2 ⟨rfl, q, hw⟩
  rw [hw]
  clear hw w2
  go_wp2_with fail
  go_ret
  exact ⟨rfl, _, rfl⟩

set_option maxHeartbeats 2000000 in
set_option maxRecDepth 100000 in
theorem equal_any (ao bo : Option Addr) (n m c d : Nat) (xs ys : List ByteArray) (hn : xs.length = n) (hm : ys.length = m) (hn2 : n ≤ 9223372036854775807) (hm2 : m ≤ 9223372036854775807) (w : World) (h1 : StrAt w ao xs) (h2 : StrAt w bo ys) :
    Calls Tryz.prog 109 #[.slice ao n c, .slice bo m d] w fun e w' => e = .returned (.bool (decide (xs = ys))) ∧ ∃ q, w' = w.drewN q := by
  have HN := Lib.hid hn
  have HM := Lib.hid hm
  have H1 := Lib.hid h1
  have H2 := Lib.hid h2
  clear hn hm h1 h2
  by_cases hl : n = m
  · subst hl
    have hq : ((n : Int) != (n : Int)) = false := by simp
    go_enter Tryz.func109, Tryz.ntmps109
    go_wp2_with fail
    go_loopw [13] (fun i wr => ∃ k q : Nat, k ≤ n ∧ i = .int .i64 k ∧ wr = w.drewN q ∧ Hid (∀ j, j < k → xs[j]? = ys[j]?)) (fun i _ => n - (intOf i).toNat)
    case atStart => exact ⟨0, 0, Nat.zero_le _, rfl, rfl, fun j hj => absurd hj (Nat.not_lt_zero _)⟩
    case round =>
      obtain ⟨k, q, hk, rfl, rfl, HE⟩ := hrel
      by_cases hlt : k < n
      · obtain ⟨x, hx⟩ : ∃ x, xs[k]? = some x := ⟨_, List.getElem?_eq_getElem (by rw [HN.out]; exact hlt)⟩
        obtain ⟨y, hy⟩ : ∃ y, ys[k]? = some y := ⟨_, List.getElem?_eq_getElem (by rw [HM.out]; exact hlt)⟩
        obtain ⟨a, rfl, ha⟩ := H1.out k x hx
        obtain ⟨b, rfl, hb⟩ := H2.out k y hy
        have HX := Lib.hid hx
        have HY := Lib.hid hy
        have hki : (k : Int) < (n : Int) := by omega
        clear hx hy
        by_cases he : x = y
        · have ht := str_eq x y he
          have HXY := Lib.hid he
          clear he
          go_wp2_with fail
          go_quiet (fail)
          go_wp2_with fail
          go_roundw
          case rel =>
            refine ⟨k + 1, _, by omega, by go_num, rfl, ?_⟩
            intro j hj
            by_cases e : j = k
            · rw [e, HX.out, HY.out, HXY.out]
            · exact HE.out j (by omega)
          case measure => simp [intOf]; omega
        · have ht := str_ne x y he
          have HF := Lib.hid (show decide (xs = ys) = false from decide_eq_false (fun e => he (by
            have h3 := HX.out
            rw [e, HY.out] at h3
            exact (Option.some.inj h3).symm)))
          clear he
          go_wp2_with fail
          go_quiet (fail)
          go_wp2_with fail
          go_ret
          rw [HF.out]
          exact ⟨rfl, _, by rw [World.drewN_drewN]⟩
      · go_wp2_with fail
        go_ret
        have : xs = ys := by
          apply List.ext_getElem?
          intro j
          by_cases hj : j < k
          · exact HE.out j hj
          · rw [List.getElem?_eq_none (by rw [HN.out]; omega), List.getElem?_eq_none (by rw [HM.out]; omega)]
        rw [decide_eq_true this]
        exact ⟨rfl, _, rfl⟩
  · have hq : ((n : Int) != (m : Int)) = true := by rw [bne_iff_ne]; omega
    have HF := Lib.hid (show decide (xs = ys) = false from decide_eq_false (fun e => hl (by rw [← HN.out, ← HM.out, e])))
    clear hl
    go_enter Tryz.func109, Tryz.ntmps109
    go_wp2_with fail
    go_ret
    rw [HF.out]
    exact ⟨rfl, 0, rfl⟩
end Go.Proofs.YtageielcdebjlaaGreatDoor
