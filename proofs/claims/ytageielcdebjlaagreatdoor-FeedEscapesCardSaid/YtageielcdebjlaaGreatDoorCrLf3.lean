/- strings.IndexAny and ContainsAny at the two bytes of a line's end, for every string shorter than the model's bound. -/
import Derived.Test.YtageielcdebjlaaGreatDoorCrLf2
import Derived.Test.YtageielcdebjlaaGreatDoorBytes
namespace Go.Proofs.YtageielcdebjlaaGreatDoor
open Go.RowKit

/-- IndexRune in the two bytes at a rune that is no ASCII, as it comes out of a string. -/
theorem indexRune_any (ch : ByteArray) (hch : ch.data.toList = [13, 10]) (s : ByteArray) (pos : Nat) (h : pos < s.size) (ha : 128 ≤ (s[pos]'h).toNat) (w : World) :
    Calls Tryz.prog 244 #[.string ch, .int .i32 ((Utf8.decode s pos).1 : Int)] w fun e w' => e = .returned (.int .i64 (-1)) ∧ Below w.heap.size w w' := by
  have hsz : ch.size = 2 := by rw [Lib.size_eq, hch]; rfl
  have hv := decode_valid s pos
  have h128 := (decode_high s pos h ha).1
  have hle := decode_le s pos
  generalize (Utf8.decode s pos).1 = r at hv h128 hle
  have hg : ∀ (j : Nat) (hj : j < ch.size), (ch[j]'hj).toNat < 128 ∧ (j = 1 → ch[j]'hj = 10) := by
    intro j hj
    have e := Lib.data_getElem? ch j hj
    rw [hch] at e
    have : j = 0 ∨ j = 1 := by omega
    rcases this with rfl | rfl
    · simp at e; rw [← e]; exact ⟨by decide, by omega⟩
    · simp at e; rw [← e]; exact ⟨by decide, fun _ => rfl⟩
  by_cases h1 : r = 65533
  · exact indexRune_fault ch (fun j hj => (hg j hj).1) r h1 w
  · have hE := encode_facts (r : Int) hv (by omega)
    obtain ⟨E, hEe⟩ : ∃ E, Utf8.encode (r : Int) = E := ⟨_, rfl⟩
    rw [hEe] at hE
    obtain ⟨e1, e2, e3⟩ := hE
    by_cases h2 : E.size = 2
    · have hl : 1 < E.size := by omega
      have e4 : ∀ (k : Nat) (hk : k < E.size), k = E.size - 1 → 128 ≤ (E[k]'hk).toNat := by
        intro k hk e; subst e; exact e3 hk
      have e5 := e4 1 hl (by omega)
      refine (indexRune_two ch E (by omega) (by omega) r h128 hle h1 (validRune_of r hv) hEe h2 w 10 (E[1]'hl) (fun hh => (hg 1 hh).2 rfl) (fun _ => rfl) ?_).mono ?_
      · rw [bne_iff_ne]; intro e; have : ((10 : UInt8).toNat : Int) = 10 := rfl; omega
      · rintro e w' ⟨rfl, n, rfl⟩
        exact ⟨rfl, rfl, rfl, rfl, by simp, fun _ _ => rfl⟩
    · exact indexRune_long ch E (by omega) r h128 hle h1 (validRune_of r hv) hEe (by omega) e2 w

/-- Ahead of place i there is no byte of a line's end. -/
def NoEnd (s : ByteArray) (i : Nat) : Prop := ∀ j c, j < i → s.data.toList[j]? = some c → c ≠ 13 ∧ c ≠ 10

theorem NoEnd.clean {s : ByteArray} (h : NoEnd s s.size) : Tt.Clean s.data.toList := by
  intro c hc
  obtain ⟨j, hj, e⟩ := List.mem_iff_getElem.1 hc
  exact h j c (by rw [Lib.size_eq]; exact hj) (by rw [List.getElem?_eq_getElem hj, e])

theorem not_clean {s : ByteArray} {i : Nat} {c : UInt8} (h : s.data.toList[i]? = some c) (hc : c = 13 ∨ c = 10) : ¬ Tt.Clean s.data.toList := by
  intro hcl
  have := hcl c (List.mem_of_getElem? h)
  rcases hc with e | e
  · exact this.1 e
  · exact this.2 e

theorem indexByte_ends (ch : ByteArray) (hch : ch.data.toList = [13, 10]) (c : UInt8) : (c = 13 ∨ c = 10 → 0 ≤ Lib.indexByte ch.data.toList c) ∧ (¬ (c = 13 ∨ c = 10) → Lib.indexByte ch.data.toList c < 0) := by
  have h := Lib.contains_iff_indexByte ch.data.toList c
  rw [hch] at h ⊢
  constructor
  · intro hc
    have : [13, 10].contains c = true := by simp; exact hc
    rw [this] at h
    exact of_decide_eq_true h.symm
  · intro hc
    have : [13, 10].contains c = false := by simpa using hc
    rw [this] at h
    have := of_decide_eq_false h.symm
    omega

set_option maxHeartbeats 4000000 in
set_option maxRecDepth 100000 in
theorem indexAny_short (ch : ByteArray) (hch : ch.data.toList = [13, 10]) (s : ByteArray) (h8 : s.size ≤ 8) (w : World) :
    Calls Tryz.prog 163 #[.string s, .string ch] w fun e w' => ∃ v : Int, e = .returned (.int .i64 v) ∧ (Tt.Clean s.data.toList → v < 0) ∧ (¬ Tt.Clean s.data.toList → 0 ≤ v) ∧ Below w.heap.size w w' := by
  have hsz2 : ch.size = 2 := by rw [Lib.size_eq, hch]; rfl
  have HB := Lib.hid (indexByte_ends ch hch)
  have HCH := Lib.hid hch
  have hemp : ch.toList.isEmpty = false := by rw [Lib.toList_data, hch]; rfl
  have hn1 : ((ch.size : Int) == 1) = false := beq_eq_false_iff_ne.2 (by omega)
  have h8z : decide ((8 : Int) < (s.size : Int)) = false := decide_eq_false (by omega)
  clear hch hsz2
  go_enter Tryz.func163, Tryz.ntmps163
  go_wp2_with (go_at_call 245; refine (Tryz.strings_shouldUseASCIISet _ _).mono ?_; rintro e w' ⟨rfl, hw⟩; rw [hw, h8z]; clear hw)
  clear hemp hn1 h8z
  go_loopw [9, 10] (fun _ _ wr => ∃ pos : Nat, pos ≤ s.size ∧ wr.heap[w.heap.size]? = some (.stringIter s pos) ∧ Below w.heap.size w wr ∧ NoEnd s pos) (fun _ _ wr => s.size - wr.iterPos w.heap.size)
  case atStart =>
    exact ⟨0, Nat.zero_le _, World.iter_heap w s 0, (Below.refl _ w).alloc (Nat.le_refl _) _, fun j c hj => absurd hj (Nat.not_lt_zero _)⟩
  case round =>
    obtain ⟨pos, hp, hit, hbw, hno⟩ := hrel
    have HNO := Lib.hid hno
    clear hno
    have hszw : w.heap.size + 1 ≤ wr.heap.size := (Array.getElem?_eq_some_iff.1 hit).1
    by_cases hlt : pos < s.size
    · have hd1 := decode_le s pos
      have hit2 := Lib.iterAt_heap wr w.heap.size s pos (pos + (Utf8.decode s pos).2) hit
      have hbw2 := Lib.below_iterAt hbw (k := w.heap.size) (Nat.le_refl _) s (pos + (Utf8.decode s pos).2)
      have hsz2 : w.heap.size + 1 ≤ (wr.iterAt w.heap.size s (pos + (Utf8.decode s pos).2)).heap.size := by rw [Lib.iterAt_size]; omega
      obtain ⟨c, hx⟩ : ∃ c : UInt8, s[pos]'hlt = c := ⟨_, rfl⟩
      have hcl := Lib.data_getElem? s pos hlt
      rw [hx] at hcl
      have HC := Lib.hid hcl
      clear hcl
      by_cases ha : c.toNat < 128
      · have hdec := decode_ascii s pos hlt (by rw [hx]; exact ha)
        rw [hx] at hdec
        rw [hdec] at hit2 hbw2 hsz2
        have hnx : ∀ ty, (Instr.next (.pointer (some ⟨w.heap.size, 0, none⟩)) true ty).run Tryz.prog wr = .ok (.tuple #[.bool true, .int .i64 pos, .int .i32 (c.toNat : Int)]) (wr.iterAt w.heap.size s (pos + 1)) := fun ty => by
          have := Lib.run_next_ascii_at (P := Tryz.prog) wr w.heap.size s pos ty hit hlt (by rw [hx]; exact ha)
          rw [this, hx]
        clear hx hdec
        have hback : ((c.toNat : Int)).toNat.toUInt8 = c := by simp
        by_cases hce : c = 13 ∨ c = 10
        · have hge := (HB.out c).1 hce
          have HNC := Lib.hid (not_clean HC.out hce)
          clear hce
          go_wp2_with (go_at_call 244; refine (Tryz.strings_IndexRune_ascii _ _ _ (by omega) (by omega)).mono ?_; rintro e w' ⟨rfl, hw⟩; rw [hw, hback]; clear hw)
          go_ret
          exact ⟨_, rfl, fun h => absurd h HNC.out, fun _ => by omega, hbw2⟩
        · have hlt0 := (HB.out c).2 hce
          have HNC := Lib.hid hce
          clear hce
          go_wp2_with (go_at_call 244; refine (Tryz.strings_IndexRune_ascii _ _ _ (by omega) (by omega)).mono ?_; rintro e w' ⟨rfl, hw⟩; rw [hw, hback]; clear hw)
          go_roundw
          case rel =>
            refine ⟨pos + 1, by omega, hit2, hbw2, ?_⟩
            intro j c' hj hc'
            by_cases e : j = pos
            · subst e
              rw [HC.out] at hc'
              cases hc'
              exact ⟨fun e => HNC.out (.inl e), fun e => HNC.out (.inr e)⟩
            · exact HNO.out j c' (by omega) hc'
          case measure => simp only [World.iterPos, hit2, hit]; omega
      · have hwd := (decode_high s pos hlt (by rw [hx]; omega)).2
        have hcont := decode_cont s pos
        have HCO := Lib.hid hcont
        have HIR := Lib.hid (fun W => indexRune_any ch HCH.out s pos hlt (by rw [hx]; omega) W)
        have hnx : ∀ ty, (Instr.next (.pointer (some ⟨w.heap.size, 0, none⟩)) true ty).run Tryz.prog wr = _ := fun ty => Lib.run_next_any_at (P := Tryz.prog) wr w.heap.size s pos ty hit hlt
        have hposw : pos + (Utf8.decode s pos).2 ≤ s.size := by
          by_cases e : (Utf8.decode s pos).2 = 1
          · omega
          · obtain ⟨h, _⟩ := hcont ((Utf8.decode s pos).2 - 1) (by omega) (by omega)
            omega
        clear hcont hx
        go_wp2_with fail
        refine (HIR.out _).mono ?_
        rintro e w2 ⟨rfl, hb2⟩
        have hit3 : w2.heap[w.heap.size]? = some (.stringIter s (pos + (Utf8.decode s pos).2)) := (hb2.block _ (by omega)).trans hit2
        go_wp2_with fail
        go_roundw
        case rel =>
          refine ⟨pos + (Utf8.decode s pos).2, hposw, hit3, hbw2.trans (hb2.mono (by omega)), ?_⟩
          intro j c' hj hc'
          by_cases e : j < pos
          · exact HNO.out j c' e hc'
          · by_cases e2 : j = pos
            · subst e2
              rw [HC.out] at hc'
              cases hc'
              exact ⟨fun e => by subst e; simp at ha, fun e => by subst e; simp at ha⟩
            · obtain ⟨hh, h128⟩ := HCO.out (j - pos) (by omega) (by omega)
              have e3 : pos + (j - pos) = j := by omega
              simp only [e3] at hh h128
              have := Lib.data_getElem? s j hh
              rw [this] at hc'
              cases hc'
              exact ⟨fun e => by rw [e] at h128; simp at h128, fun e => by rw [e] at h128; simp at h128⟩
        case measure => simp only [World.iterPos, hit3, hit]; omega
    · obtain rfl : pos = s.size := by omega
      have hnx : ∀ ty, (Instr.next (.pointer (some ⟨w.heap.size, 0, none⟩)) true ty).run Tryz.prog wr = _ := fun ty => Lib.run_next_end_at (P := Tryz.prog) wr w.heap.size s s.size ty hit hlt
      go_wp2_with fail
      go_ret
      exact ⟨-1, rfl, fun _ => by omega, fun h => absurd HNO.out.clean h, hbw⟩

theorem indexAny_ge (chars : List UInt8) : ∀ l : List UInt8, (Tt.Clean l → chars = [13, 10] → Lib.indexAny l chars < 0) ∧ (¬ Tt.Clean l → chars = [13, 10] → 0 ≤ Lib.indexAny l chars)
  | [] => ⟨fun _ _ => by unfold Lib.indexAny; decide, fun h => absurd (by simp [Tt.Clean]) h⟩
  | b :: l => by
    have ih := indexAny_ge chars l
    constructor
    · intro h e
      have hb := h b (by simp)
      have hl : Tt.Clean l := fun x hx => h x (by simp [hx])
      have h1 := ih.1 hl e
      have h2 := Lib.indexAny_ge chars l
      have hc : chars.contains b = false := by subst e; simp [hb]
      rw [Lib.indexAny, hc]
      have : Lib.indexAny l chars = -1 := by omega
      rw [this]; decide
    · intro h e
      rw [Lib.indexAny]
      by_cases hc : chars.contains b = true
      · rw [if_pos hc]; exact Int.le_refl _
      · rw [if_neg hc]
        have hb : b ≠ 13 ∧ b ≠ 10 := by subst e; simpa using hc
        have hl : ¬ Tt.Clean l := fun hl => h (fun x hx => by
          rcases List.mem_cons.1 hx with rfl | hx
          · exact hb
          · exact hl x hx)
        have h1 := ih.2 hl e
        rw [if_neg (fun e => by have := beq_iff_eq.1 e; omega)]
        omega

/-- strings.ContainsAny at the two bytes of a line's end. -/
theorem containsAny_any (ch : ByteArray) (hch : ch.data.toList = [13, 10]) (s : ByteArray) (hs : s.size < 4294967281) (w : World) :
    Calls Tryz.prog 92 #[.string s, .string ch] w fun e w' => e = .returned (.bool (!decide (Tt.Clean s.data.toList))) ∧ Below w.heap.size w w' := by
  have hsz2 : ch.size = 2 := by rw [Lib.size_eq, hch]; rfl
  have hcall : Calls Tryz.prog 163 #[.string s, .string ch] w fun e w' => ∃ v : Int, e = .returned (.int .i64 v) ∧ (Tt.Clean s.data.toList → v < 0) ∧ (¬ Tt.Clean s.data.toList → 0 ≤ v) ∧ Below w.heap.size w w' := by
    by_cases h8 : s.size ≤ 8
    · exact indexAny_short ch hch s h8 w
    · refine (Tryz.strings_IndexAny_long ?_ s ch w (by omega) (by omega) hs (by omega) ?_).mono ?_
      · intro w; kernel_rfl
      · intro j b hb
        rw [hch] at hb
        have : j = 0 ∨ j = 1 := by
          have := (List.getElem?_eq_some_iff.1 hb).1; simp at this; omega
        rcases this with rfl | rfl <;> (simp at hb; subst hb; decide)
      · rintro e w' ⟨rfl, rfl⟩
        have := indexAny_ge ch.data.toList s.data.toList
        exact ⟨_, rfl, fun h => this.1 h hch, fun h => this.2 h hch, ((Below.refl _ w).alloc (Nat.le_refl _) _).alloc (by simp) _⟩
  have HC := Lib.hid hcall
  clear hcall hch hsz2
  by_cases hcl : Tt.Clean s.data.toList
  · have HD := Lib.hid (show (!decide (Tt.Clean s.data.toList)) = false by simp [hcl])
    have HCL := Lib.hid hcl
    clear hcl
    go_enter Tryz.func92, Tryz.ntmps92
    go_wp2_with fail
    refine HC.out.mono ?_
    rintro e w1 ⟨v, rfl, h1, _, hb⟩
    have h1' := h1 HCL.out
    have hv : decide ((0 : Int) ≤ v) = false := decide_eq_false (by omega)
    clear h1
    go_wp2_with fail
    go_ret
    rw [HD.out]
    exact ⟨rfl, hb⟩
  · have HD := Lib.hid (show (!decide (Tt.Clean s.data.toList)) = true by simp [hcl])
    have HCL := Lib.hid hcl
    clear hcl
    go_enter Tryz.func92, Tryz.ntmps92
    go_wp2_with fail
    refine HC.out.mono ?_
    rintro e w1 ⟨v, rfl, _, h1, hb⟩
    have h1' := h1 HCL.out
    have hv : decide ((0 : Int) ≤ v) = true := decide_eq_true (by omega)
    clear h1
    go_wp2_with fail
    go_ret
    rw [HD.out]
    exact ⟨rfl, hb⟩

end Go.Proofs.YtageielcdebjlaaGreatDoor
