/- feed.Escape: its contract. -/
import Derived.Test.YtageielcdebjlaaGreatDoorBuilder
import Derived.Test.YtageielcdebjlaaGreatDoorBytes
import Derived.Laws.IdiomStrings
import Derived.LoopTactic
namespace Go.Proofs.YtageielcdebjlaaGreatDoor
open Go.RowKit

/-- '[]byte(s)': a new block that holds the bytes. -/
theorem bytes_of (s : ByteArray) (w : World) : ∃ cap W', (convert 9 76 (.string s)).run Tryz.prog w = .ok (.slice (some ⟨w.heap.size, 0, none⟩) s.size cap) W' ∧ Below w.heap.size w W' ∧ w.heap.size + 1 ≤ W'.heap.size ∧
    ∀ j c, s.data.toList[j]? = some c → W'.cell? ⟨w.heap.size, j, none⟩ = some (.int .u8 (c.toNat : Int)) := by
  refine ⟨_, _, run_bytes_of_string w 9 76 5 s Tryz.underlying9 Tryz.underlying76 Tryz.underlying5, ⟨rfl, rfl, rfl, by simp, fun k hk => ?_⟩, by simp, fun j c hj => ?_⟩
  · exact Below.heap_alloc w.drew _ k hk
  · have hnew : ∀ (w : World) (o : Obj), (w.alloc o).heap[w.heap.size]? = some o := fun w o => heap_alloc_new w o
    have h2 := hnew w.drew (.cells (bytesRow s (grownCap w s.size 0 5)) 5 ((bytesRow s (grownCap w s.size 0 5)).size, (bytesRow s (grownCap w s.size 0 5)).size + 1))
    have h3 : w.drew.heap.size = w.heap.size := rfl
    rw [h3] at h2
    rw [World.cell?]
    simp only [h2]
    have hj' : j < s.data.size := by have := (List.getElem?_eq_some_iff.1 hj).1; simpa using this
    have : s.data[j]? = some c := by rw [← Array.getElem?_toList]; exact hj
    have hj2 : j < s.size := hj'
    have h4 := (Array.getElem?_eq_some_iff.1 this).2
    simp [bytesRow, Array.getElem?_append, hj2]
    rw [h4]

theorem ret_str {a b : List UInt8} (h : a = b) : Ending.returned (.string ⟨a.toArray⟩) = .returned (.string ⟨b.toArray⟩) := by rw [h]

theorem esc_snoc (l : List UInt8) (k : Nat) (c : UInt8) (h : l[k]? = some c) : Tt.esc (l.take (k + 1)) = Tt.esc (l.take k) ++ Tt.escB c := by
  obtain ⟨h1, h2⟩ := List.getElem?_eq_some_iff.1 h
  rw [List.take_succ_eq_append_getElem h1, h2]
  simp [Tt.esc]

set_option maxHeartbeats 2000000 in
set_option maxRecDepth 100000 in
theorem escape_any (s : ByteArray) (w : World) (hs : s.size ≤ 70368744177664) :
    Calls Tryz.prog 39 #[.string s] w fun e w' => e = .returned (.string ⟨(Tt.esc s.data.toList).toArray⟩) ∧ Below w.heap.size w w' := by
  obtain ⟨cap, W, hconv, hb0, hsz, hcell⟩ := bytes_of s (w.alloc (.cells #[.pointer none, .slice none 0 0] 142))
  have hsa : (w.alloc (.cells #[.pointer none, .slice none 0 0] 142)).heap.size = w.heap.size + 1 := by simp
  rw [hsa] at hb0 hsz hcell
  have hconv' : (convert 9 76 (.string s)).run Tryz.prog (w.alloc (.cells #[.pointer none, .slice none 0 0] 142)) = .ok (.slice (some ⟨w.heap.size + 1, 0, none⟩) s.size cap) W := by rw [hconv, hsa]
  clear hconv hsa
  have hbl : Bld w.heap.size (w.heap.size + 2) [] W := (Bld.fresh w (w.heap.size + 2) (by omega)).kept (by simpa using hb0)
  have HW : Hid (Below w.heap.size w W) := by
    exact ((Below.refl _ w).alloc (Nat.le_refl _) _).trans (hb0.mono (by omega))
  have hlen : s.size = s.data.toList.length := Lib.size_eq s
  have HL := Lib.hid hlen
  clear hlen hb0
  go_enter Tryz.func39, Tryz.ntmps39
  go_wp2_with fail
  clear hconv'
  go_loopw [9] (fun i wr => ∃ k : Nat, k ≤ s.size ∧ i = .int .i64 k ∧ Bld w.heap.size (w.heap.size + 2) (Tt.esc (s.data.toList.take k)) wr ∧ But w.heap.size (w.heap.size + 2) W wr) (fun i _ => s.size - (intOf i).toNat)
  case atStart => exact ⟨0, Nat.zero_le _, rfl, hbl, But.refl _ _ _⟩
  case round =>
    obtain ⟨k, hk, rfl, hB, hbut⟩ := hrel
    by_cases hlt : k < s.size
    · obtain ⟨c, hc⟩ : ∃ c, s.data.toList[k]? = some c := ⟨_, List.getElem?_eq_getElem (by rw [← HL.out]; exact hlt)⟩
      have hcc : wr.cell? ⟨w.heap.size + 1, k, none⟩ = some (.int .u8 (c.toNat : Int)) := (hbut.cell (p := ⟨w.heap.size + 1, k, none⟩) (by simp) (by simp)).trans (hcell k c hc)
      have hll := Tt.esc_length (s.data.toList.take k)
      have htk : (s.data.toList.take k).length ≤ k := List.length_take_le _ _
      have hsz2 := hbut.size
      have HC := Lib.hid hc
      have HS := Lib.hid (esc_snoc s.data.toList k c hc)
      clear hc
      obtain ⟨n, hn⟩ : ∃ n : Int, n = c.toNat := ⟨_, rfl⟩
      rw [← hn] at hcc
      have hdec : ∀ m : Nat, m < 256 → (n == (m : Int)) = decide (c = m.toUInt8) := by
        intro m hm
        rw [Bool.eq_iff_iff, beq_iff_eq, decide_eq_true_iff, hn]
        constructor
        · intro e
          apply UInt8.toNat_inj.1
          simp; omega
        · intro e
          have : c.toNat = (m.toUInt8).toNat := by rw [e]
          simp at this; omega
      have e92 := hdec 92 (by omega)
      have e59 := hdec 59 (by omega)
      have e44 := hdec 44 (by omega)
      have e10 := hdec 10 (by omega)
      clear hdec
      have HN := Lib.hid hn
      clear hn
      simp only [show (Nat.toUInt8 92 : UInt8) = 92 from rfl, show (Nat.toUInt8 59 : UInt8) = 59 from rfl, show (Nat.toUInt8 44 : UInt8) = 44 from rfl, show (Nat.toUInt8 10 : UInt8) = 10 from rfl] at e92 e59 e44 e10
      by_cases h1 : c = 92 ∨ c = 59 ∨ c = 44
      · have hes : Tt.escB c = [92] ++ [c] := by unfold Tt.escB; rw [if_pos h1]; rfl
        have HE := Lib.hid hes
        clear hes
        have h3 : (n == (92 : Int)) = true ∨ ((n == (92 : Int)) = false ∧ (n == (59 : Int)) = true) ∨ ((n == (92 : Int)) = false ∧ (n == (59 : Int)) = false ∧ (n == (44 : Int)) = true) := by
          rw [show ((92 : Nat) : Int) = 92 from rfl] at e92
          rw [show ((59 : Nat) : Int) = 59 from rfl] at e59
          rw [show ((44 : Nat) : Int) = 44 from rfl] at e44
          rw [e92, e59, e44]
          by_cases a1 : c = 92
          · simp [a1]
          · by_cases a2 : c = 59
            · simp [a1, a2]
            · have a3 : c = 44 := by rcases h1 with h | h | h <;> simp_all
              simp [a1, a2, a3]
        clear e92 e59 e44 e10 h1
        rcases h3 with h3 | ⟨h3, h4⟩ | ⟨h3, h4, h5⟩
        all_goals
          go_wp2_with fail
          refine (writeByte_any _ _ _ _ 92 rfl _ hB (by omega) (by omega)).mono ?_
          rintro e w1 ⟨rfl, hB1, hbut1⟩
          have hsz3 := hbut1.size
          go_wp2_with fail
          refine (writeByte_any _ _ _ _ c HN.out _ hB1 (by simp; omega) (by omega)).mono ?_
          rintro e w2 ⟨rfl, hB2, hbut2⟩
          go_wp2_with fail
          go_roundw
          case rel => exact ⟨k + 1, by omega, by go_num, by rw [HS.out, HE.out, ← List.append_assoc]; exact hB2, (hbut.trans hbut1).trans hbut2⟩
          case measure => simp [intOf]; omega
      · have f92 : (n == (92 : Int)) = false := by
          refine e92.trans (decide_eq_false fun h => h1 (.inl h))
        have f59 : (n == (59 : Int)) = false := by
          refine e59.trans (decide_eq_false fun h => h1 (.inr (.inl h)))
        have f44 : (n == (44 : Int)) = false := by
          refine e44.trans (decide_eq_false fun h => h1 (.inr (.inr h)))
        by_cases h2 : c = 10
        · have f10 : (n == (10 : Int)) = true := by
            refine e10.trans (decide_eq_true h2)
          have HE := Lib.hid (show Tt.escB c = [92, 110] by unfold Tt.escB; rw [if_neg h1, if_pos h2])
          clear e92 e59 e44 e10 h1 h2
          go_wp2_with fail
          refine (writeString_any _ _ _ _ _ hB (by simp [ByteArray.size]; omega) (by omega)).mono ?_
          rintro e w1 ⟨rfl, hB1, hbut1⟩
          go_wp2_with fail
          go_roundw
          case rel => exact ⟨k + 1, by omega, by go_num, by rw [HS.out, HE.out]; exact hB1, hbut.trans hbut1⟩
          case measure => simp [intOf]; omega
        · have f10 : (n == (10 : Int)) = false := by
            refine e10.trans (decide_eq_false h2)
          have HE := Lib.hid (show Tt.escB c = [c] by unfold Tt.escB; rw [if_neg h1, if_neg h2])
          clear e92 e59 e44 e10 h1 h2
          go_wp2_with fail
          refine (writeByte_any _ _ _ _ c HN.out _ hB (by omega) (by omega)).mono ?_
          rintro e w1 ⟨rfl, hB1, hbut1⟩
          go_wp2_with fail
          go_roundw
          case rel => exact ⟨k + 1, by omega, by go_num, by rw [HS.out, HE.out]; exact hB1, hbut.trans hbut1⟩
          case measure => simp [intOf]; omega
    · go_wp2_with fail
      refine (string_any _ _ _ _ hB).mono ?_
      rintro e w1 ⟨rfl, hb1⟩
      go_wp2_with fail
      go_ret
      exact ⟨ret_str (by rw [List.take_of_length_le (by rw [← HL.out]; omega)]), HW.out.trans ((hbut.below (Nat.le_refl _) (by omega)).trans hb1)⟩
end Go.Proofs.YtageielcdebjlaaGreatDoor
