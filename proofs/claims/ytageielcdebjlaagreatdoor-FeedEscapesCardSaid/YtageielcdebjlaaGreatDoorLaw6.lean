/- FeedEscapes: the walk. -/
import Derived.Test.YtageielcdebjlaaGreatDoorLaw7
import Derived.Test.YtageielcdebjlaaGreatDoorRefUnfold
import Derived.Test.YtageielcdebjlaaGreatDoorRefUnesc
import Derived.Test.YtageielcdebjlaaGreatDoorRefFold
import Derived.Test.YtageielcdebjlaaGreatDoorSerW
namespace Go.Proofs.YtageielcdebjlaaGreatDoor
open Go.RowKit

/-- What a text is unfolded to: the lines, and whether it is fine. -/
def ufX (text : List UInt8) : List ByteArray := ((Tt.unf text).getD []).map fun l => ⟨l.toArray⟩
def ufB (text : List UInt8) : Bool := (Tt.unf text).isSome

theorem unfolded_val {B : Nat} {text : List UInt8} {e : Ending} {w : World} (h : Unfolded B text e w) :
    ∃ ao c, e = .returned (.tuple #[.slice ao (ufX text).length c, .bool (ufB text)]) ∧ (ufX text).length ≤ text.length + 1 ∧ ∀ w', Below w.heap.size w w' → StrAt w' ao (ufX text) := by
  rcases h with ⟨h1, h2⟩ | ⟨g, cap, xs, h1, h2, h3, _, h5, _, h7⟩
  · refine ⟨none, 0, ?_, ?_, ?_⟩
    · rw [h2]; simp [ufX, ufB, h1]
    · simp [ufX, h1]
    · intro w' _ j x hx
      simp [ufX, h1] at hx
  · have hx : ufX text = xs := by
      unfold ufX
      rw [h1]
      simp [Function.comp_def]
    rw [hx]
    exact ⟨some ⟨g, 0, none⟩, cap, by rw [h2]; simp [ufB, h1], h7, fun w' hw => strAt_block h3 (hw.block g h5)⟩

set_option maxHeartbeats 8000000 in
set_option maxRecDepth 100000 in
theorem law6 (s : ByteArray) (ao : Option Addr) (len cap : Nat) (w : World) (m : Int) (hm : w.cell? ⟨0, 0, none⟩ = some (.int .i64 m)) (h0 : 0 < w.heap.size) (hn : Nums w ao len) :
    Calls Tryz.prog 6 #[.string s, .slice ao len cap] w fun e w' => e = .returned (.bool true) ∧ Below w.heap.size w w' := by
  have HN := Lib.hid hn
  clear hn
  by_cases hlen : (len : Int) ≤ 400
  · have hd1 : decide ((len : Int) ≤ 400) = true := decide_eq_true hlen
    by_cases hsz : (2000 : Int) < (s.size : Int)
    · go_enter Tryz.func6, Tryz.ntmps6
      go_wp2_with fail
      refine (light_any _ _ _ _).mono ?_
      rintro e w1 ⟨rfl, hw⟩
      rw [hw, hd1]
      clear hw w1
      go_wp2_with fail
      refine (awake_any w m hm h0).mono ?_
      rintro e w1 ⟨rfl, hb1⟩
      go_wp2_with fail
      go_ret
      exact ⟨rfl, hb1⟩
    · have hs2 : s.size ≤ 2000 := by omega
      go_enter Tryz.func6, Tryz.ntmps6
      go_wp2_with fail
      refine (light_any _ _ _ _).mono ?_
      rintro e w1 ⟨rfl, hw⟩
      rw [hw, hd1]
      clear hw w1
      go_wp2_with fail
      refine (roll_any ao len cap w (by omega) HN.out).mono ?_
      rintro e w1 ⟨rfl, D1, L1, s1⟩
      have hm1 := Lib.hid ((L1.cell (p := ⟨0, 0, none⟩) h0).trans hm)
      clear hm
      go_wp2_with fail
      refine (text_any _ _ 12 _ D1 (by decide) (by decide) (by decide) (by decide)).mono ?_
      rintro e w2 ⟨x1, rfl, hx1, _, D2, B2⟩
      have L2 := L1.trans (B2.below (Nat.le_refl _) (by omega))
      have hm2 := Lib.hid ((B2.cell (p := ⟨0, 0, none⟩) (by simp; omega) (by simp; omega)).trans hm1.out)
      have s2 : w.heap.size + 1 ≤ w2.heap.size := Nat.le_trans s1 B2.size
      clear D1 B2 L1 hm1
      go_wp2_with fail
      refine (text_any _ _ 30 _ D2 (by decide) (by decide) (by decide) (by decide)).mono ?_
      rintro e w3 ⟨x2, rfl, hx2, _, D3, B3⟩
      have L3 := L2.trans (B3.below (Nat.le_refl _) (by omega))
      have hm3 := Lib.hid ((B3.cell (p := ⟨0, 0, none⟩) (by simp; omega) (by simp; omega)).trans hm2.out)
      have s3 : w.heap.size + 1 ≤ w3.heap.size := Nat.le_trans s2 B3.size
      clear D2 B3 L2 hm2
      go_wp2_with fail
      refine (text_any _ _ 9 _ D3 (by decide) (by decide) (by decide) (by decide)).mono ?_
      rintro e w4 ⟨x3, rfl, hx3, _, D4, B4⟩
      have L4 := L3.trans (B4.below (Nat.le_refl _) (by omega))
      have hm4 := Lib.hid ((B4.cell (p := ⟨0, 0, none⟩) (by simp; omega) (by simp; omega)).trans hm3.out)
      have s4 : w.heap.size + 1 ≤ w4.heap.size := Nat.le_trans s3 B4.size
      clear D3 B4 L3 hm3
      go_wp2_with fail
      obtain ⟨y1, hy1⟩ : ∃ y : ByteArray, y = ⟨x1.toArray⟩ := ⟨_, rfl⟩
      obtain ⟨y2, hy2⟩ : ∃ y : ByteArray, y = ⟨x2.toArray⟩ := ⟨_, rfl⟩
      obtain ⟨y3, hy3⟩ : ∃ y : ByteArray, y = (⟨x3.toArray⟩ ++ ⟨#[13, 10]⟩) := ⟨_, rfl⟩
      have z1 : y1.size ≤ 2000 := by rw [hy1, Lib.size_eq]; show x1.length ≤ 2000; omega
      have z2 : y2.size ≤ 2000 := by rw [hy2, Lib.size_eq]; show x2.length ≤ 2000; omega
      have z3 : y3.size ≤ 2000 := by rw [hy3, ByteArray.size_append, Lib.size_eq]; show x3.length + 2 ≤ 2000; omega
      obtain ⟨g, hg⟩ : ∃ g, g = w4.heap.size := ⟨_, rfl⟩
      obtain ⟨W5, hW5⟩ : ∃ W5, W5 = w4.alloc (.cells #[.string s, .string y1, .string y2, .string y3] 9) := ⟨_, rfl⟩
      have HB5 := Lib.hid (show W5.heap[g]? = some (.cells #[.string s, .string y1, .string y2, .string y3] 9 (0, 0)) by rw [hW5, hg]; exact heap_alloc_new w4 _)
      have L5 : Below w.heap.size w W5 := by rw [hW5]; exact L4.alloc (by omega) _
      have hm5 : Hid (W5.cell? ⟨0, 0, none⟩ = some (.int .i64 m)) := by
        have : Below w4.heap.size w4 W5 := by rw [hW5]; exact below_box w4 _
        exact (this.cell (p := ⟨0, 0, none⟩) (by simp; omega)).trans hm4.out
      have s5 : w.heap.size + 1 ≤ W5.heap.size := by rw [hW5]; simp; omega
      rw [← hy1, ← hy2, ← hy3, ← hg, ← hW5]
      clear hy1 hy2 hy3 hg hW5 L4 hm4 s4 s2 s3 D4 hd1
      go_loopw [37] (fun iv wr => ∃ k : Nat, iv = .int .i64 k ∧ k ≤ 4 ∧ Below w.heap.size w wr ∧ w.heap.size + 1 ≤ wr.heap.size ∧ Hid (wr.heap[g]? = some (.cells #[.string s, .string y1, .string y2, .string y3] 9 (0, 0))) ∧ Hid (wr.cell? ⟨0, 0, none⟩ = some (.int .i64 m))) (fun iv _ => 4 - (intOf iv).toNat)
      case atStart => exact ⟨0, rfl, by omega, L5, s5, HB5.out, hm5.out⟩
      case round =>
        clear L5 s5 HB5 hm5
        obtain ⟨k, rfl, hk, hbe, hsr, HB, HM⟩ := hrel
        by_cases hlt : k < 4
        · obtain ⟨x, hc, hx⟩ : ∃ x : ByteArray, wr.cell? ⟨g, k, none⟩ = some (.string x) ∧ x.size ≤ 2000 := by
            obtain rfl | rfl | rfl | rfl : k = 0 ∨ k = 1 ∨ k = 2 ∨ k = 3 := by omega
            · exact ⟨s, by rw [Lib.cell_of_heap HB.out]; rfl, hs2⟩
            · exact ⟨y1, by rw [Lib.cell_of_heap HB.out]; rfl, z1⟩
            · exact ⟨y2, by rw [Lib.cell_of_heap HB.out]; rfl, z2⟩
            · exact ⟨y3, by rw [Lib.cell_of_heap HB.out]; rfl, z3⟩
          have hki : (k : Int) < 4 := by omega
          have hgl : g < wr.heap.size := (Array.getElem?_eq_some_iff.1 HB.out).1
          have hxl := Lib.size_eq x
          have HXL := Lib.hid hxl
          clear hxl
          go_wp2_with fail
          refine (unescape_any x wr (by omega)).mono ?_
          rintro e w1 ⟨rfl, hb1⟩
          go_wp2_with fail
          refine (refUnescape_any x w1 (by omega)).mono ?_
          rintro e w2 ⟨rfl, hb2⟩
          have K2 := below_then hb1 hb2
          have hm2 := (K2.cell (p := ⟨0, 0, none⟩) (by simp; omega)).trans HM.out
          have HM2 := Lib.hid hm2
          clear hb1 hb2 hm2
          go_wp2_with fail
          refine (unfold_any x (by omega) w2 m HM2.out).mono ?_
          rintro e w3 ⟨hU, hb3⟩
          obtain ⟨a3, c3, rfl, hn3, T3⟩ := unfolded_val hU
          have HT3 := Lib.hid T3
          have K3 := below_then K2 hb3
          clear hU T3 hb3
          go_wp2_with fail
          refine (refUnfold_any x (by omega) w3).mono ?_
          rintro e w4 ⟨hU, hb4⟩
          obtain ⟨a4, c4, rfl, hn4, T4⟩ := unfolded_val hU
          have HT4 := Lib.hid T4
          have K4 := below_then K3 hb4
          clear hU T4
          go_wp2_with fail
          refine (escape_any x w4 (by omega)).mono ?_
          rintro e w5 ⟨rfl, hb5⟩
          go_wp2_with fail
          refine (refEscape_any x w5 (by omega)).mono ?_
          rintro e w6 ⟨rfl, hb6⟩
          go_wp2_with fail
          refine (fold_any x w6 (by omega)).mono ?_
          rintro e w7 ⟨rfl, hb7⟩
          go_wp2_with fail
          refine (refFold_any x w7 (by omega)).mono ?_
          rintro e w8 ⟨rfl, hw⟩
          rw [hw]
          clear hw w8
          have J4 := below_then (below_then hb5 hb6) hb7
          have J3 := below_then hb4 J4
          have K7 := below_then K4 J4
          have hTT3 := Lib.hid (HT3.out w7 J3)
          have hTT4 := Lib.hid (HT4.out w7 J4)
          clear hb4 hb5 hb6 hb7 HT3 HT4 J3 J4 K2 K3 K4
          go_wp2_with fail
          refine (same_any _ _ _ _ _ _ (ufX x.data.toList) (ufX x.data.toList) rfl rfl (by rw [← HXL.out] at hn3; omega) (by rw [← HXL.out] at hn3; omega) w7 hTT3.out hTT4.out).mono ?_
          rintro e w8 ⟨rfl, q, hw⟩
          rw [hw, decide_eq_true (show ufX x.data.toList = ufX x.data.toList from rfl)]
          clear hw w8
          have L8 := below_drew (q := q) (below_then hbe K7)
          have HB8 := Lib.hid ((show (w7.drewN q).heap[g]? = _ from K7.block g hgl).trans HB.out)
          have HM8 := Lib.hid ((K7.cell (p := ⟨0, 0, none⟩) (by simp; omega)).trans HM.out)
          have s8 : w.heap.size + 1 ≤ (w7.drewN q).heap.size := Nat.le_trans hsr K7.size
          go_wp2_with fail
          go_roundw
          case rel => exact ⟨k + 1, by go_num, by omega, L8, s8, HB8.out, HM8.out⟩
          case measure => simp [intOf]; omega
        · have hki : ¬ (k : Int) < 4 := by omega
          go_wp2_with fail
          refine (awake_any wr m HM.out (by omega)).mono ?_
          rintro e w1 ⟨rfl, hb1⟩
          go_wp2_with fail
          go_ret
          exact ⟨rfl, below_then hbe hb1⟩
  · have hd1 : decide ((len : Int) ≤ 400) = false := decide_eq_false hlen
    go_enter Tryz.func6, Tryz.ntmps6
    go_wp2_with fail
    refine (light_any _ _ _ _).mono ?_
    rintro e w1 ⟨rfl, hw⟩
    rw [hw, hd1]
    clear hw w1
    go_wp2_with fail
    refine (awake_any w m hm h0).mono ?_
    rintro e w1 ⟨rfl, hb1⟩
    go_wp2_with fail
    go_ret
    exact ⟨rfl, hb1⟩
end Go.Proofs.YtageielcdebjlaaGreatDoor
