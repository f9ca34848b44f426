/- timetableref02.SameStrings: its contract; slices of strings in memory. -/
import Derived.Test.YtageielcdebjlaaGreatDoorText
import Derived.WalkSpells
namespace Go.Proofs.YtageielcdebjlaaGreatDoor
open Go.RowKit

/-- The strings of a slice that begins at 'ao'. -/
def StrAt (w : World) (ao : Option Addr) (xs : List ByteArray) : Prop := ∀ j x, xs[j]? = some x → ∃ a, ao = some a ∧ w.cell? (a.add j) = some (.string x)

theorem str_eq (x y : ByteArray) (h : x = y) : (x.toList == y.toList) = true := by rw [h]; exact beq_self_eq_true _
theorem str_ne (x y : ByteArray) (h : ¬ x = y) : (x.toList == y.toList) = false := by
  rw [beq_eq_false_iff_ne]; intro e; apply h
  rw [Lib.toList_data, Lib.toList_data] at e
  rw [← Lib.mk_data x, ← Lib.mk_data y, e]

set_option maxHeartbeats 2000000 in
set_option maxRecDepth 100000 in
theorem same_any (ao bo : Option Addr) (n m c d : Nat) (xs ys : List ByteArray) (hn : xs.length = n) (hm : ys.length = m) (hn2 : n ≤ 9223372036854775807) (hm2 : m ≤ 9223372036854775807) (w : World) (h1 : StrAt w ao xs) (h2 : StrAt w bo ys) :
    Calls Tryz.prog 43 #[.slice ao n c, .slice bo m d] w fun e w' => e = .returned (.bool (decide (xs = ys))) ∧ ∃ q, w' = w.drewN q := by
  have HN := Lib.hid hn
  have HM := Lib.hid hm
  have H1 := Lib.hid h1
  have H2 := Lib.hid h2
  clear hn hm h1 h2
  by_cases hl : n = m
  · subst hl
    have hq : ((n : Int) != (n : Int)) = false := by simp
    go_enter Tryz.func43, Tryz.ntmps43
    go_wp2_with fail
    go_loopw [5] (fun i wr => ∃ k q : Nat, k ≤ n ∧ i = .int .i64 k ∧ wr = w.drewN q ∧ Hid (∀ j, j < k → xs[j]? = ys[j]?)) (fun i _ => n - (intOf i).toNat)
    case atStart => exact ⟨0, 0, Nat.zero_le _, rfl, rfl, fun j hj => absurd hj (Nat.not_lt_zero _)⟩
    case round =>
      obtain ⟨k, q, hk, rfl, rfl, HE⟩ := hrel
      by_cases hlt : k < n
      · obtain ⟨x, hx⟩ : ∃ x, xs[k]? = some x := ⟨_, List.getElem?_eq_getElem (by rw [HN.out]; exact hlt)⟩
        obtain ⟨y, hy⟩ : ∃ y, ys[k]? = some y := ⟨_, List.getElem?_eq_getElem (by rw [HM.out]; exact hlt)⟩
        obtain ⟨a, rfl, ha⟩ := H1.out k x hx
        obtain ⟨b, rfl, hb⟩ := H2.out k y hy
        have HX := Lib.hid hx
        have HY := Lib.hid hy
        have hki : (k : Int) < (n : Int) := by omega
        clear hx hy
        by_cases he : x = y
        · have ht := str_eq x y he
          have HXY := Lib.hid he
          clear he
          go_wp2_with fail
          go_quiet (fail)
          go_wp2_with fail
          go_roundw
          case rel =>
            refine ⟨k + 1, _, by omega, by go_num, rfl, ?_⟩
            intro j hj
            by_cases e : j = k
            · rw [e, HX.out, HY.out, HXY.out]
            · exact HE.out j (by omega)
          case measure => simp [intOf]; omega
        · have ht := str_ne x y he
          have HF := Lib.hid (show decide (xs = ys) = false from decide_eq_false (fun e => he (by
            have h3 := HX.out
            rw [e, HY.out] at h3
            exact (Option.some.inj h3).symm)))
          clear he
          go_wp2_with fail
          go_quiet (fail)
          go_wp2_with fail
          go_ret
          rw [HF.out]
          exact ⟨rfl, _, by rw [World.drewN_drewN]⟩
      · go_wp2_with fail
        go_ret
        have : xs = ys := by
          apply List.ext_getElem?
          intro j
          by_cases hj : j < k
          · exact HE.out j hj
          · rw [List.getElem?_eq_none (by rw [HN.out]; omega), List.getElem?_eq_none (by rw [HM.out]; omega)]
        rw [decide_eq_true this]
        exact ⟨rfl, _, rfl⟩
  · have hq : ((n : Int) != (m : Int)) = true := by rw [bne_iff_ne]; omega
    have HF := Lib.hid (show decide (xs = ys) = false from decide_eq_false (fun e => hl (by rw [← HN.out, ← HM.out, e])))
    clear hl
    go_enter Tryz.func43, Tryz.ntmps43
    go_wp2_with fail
    go_ret
    rw [HF.out]
    exact ⟨rfl, 0, rfl⟩
end Go.Proofs.YtageielcdebjlaaGreatDoor
