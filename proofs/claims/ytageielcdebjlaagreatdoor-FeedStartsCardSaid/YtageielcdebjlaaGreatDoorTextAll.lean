/- feed.Fold: its contract. The generators' Text: some text of the given characters. timetableref02.SameStrings: its contract; slices of strings in memory. -/
import Derived.Test.YtageielcdebjlaaGreatDoorEscAll
import Derived.Outline
import Derived.WalkSpells
-- Fold
namespace Go.Proofs.YtageielcdebjlaaGreatDoor
open Go.RowKit

theorem bs_app (a b : ByteArray) : (a ++ b).data.toList = a.data.toList ++ b.data.toList := by simp
theorem bs_size (a b : ByteArray) : (a ++ b).size = a.size + b.size := by simp
theorem bs_extract_size (t : ByteArray) (a b : Nat) (h : b ≤ t.size) : (t.extract a b).size = b - a := by simp; omega

set_option maxHeartbeats 4000000 in
set_option maxRecDepth 100000 in
theorem fold_any (s : ByteArray) (w : World) (hs : s.size ≤ 17592186044416) :
    Calls Tryz.prog 41 #[.string s] w fun e w' => e = .returned (.string ⟨(Tt.fold s.data.toList).toArray⟩) ∧ Below w.heap.size w w' := by
  have hbl : Bld w.heap.size (w.heap.size + 1) [] (w.alloc (.cells #[.pointer none, .slice none 0 0] 142)) := Bld.fresh w (w.heap.size + 1) (by omega)
  have hW : Below w.heap.size w (w.alloc (.cells #[.pointer none, .slice none 0 0] 142)) := (Below.refl _ w).alloc (Nat.le_refl _) _
  have hS : w.heap.size + 1 ≤ (w.alloc (.cells #[.pointer none, .slice none 0 0] 142)).heap.size := by simp
  go_enter Tryz.func41, Tryz.ntmps41
  go_wp2_with fail
  go_loopw [0, 4] (fun l i wr => ∃ (t : ByteArray) (n : Nat) (acc : List UInt8), l = .string t ∧ i = .int .i64 n ∧ 74 ≤ n ∧ n ≤ 75 ∧ t.size ≤ s.size ∧ acc.length + 4 * t.size ≤ 4 * s.size ∧ Bld w.heap.size (w.heap.size + 1) acc wr ∧ Below w.heap.size w wr ∧ w.heap.size + 1 ≤ wr.heap.size ∧ Hid (acc ++ Tt.foldGo t.data.toList.length n t.data.toList = Tt.fold s.data.toList)) (fun l _ _ => match l with | .string t => t.size | _ => 0)
  case atStart => exact ⟨s, 75, [], rfl, rfl, by omega, by omega, by omega, by simp, hbl, hW, hS, by show _ = _; simp [Tt.fold]⟩
  case round =>
    obtain ⟨t, n, acc, rfl, rfl, hn1, hn2, hts, hac, hB, hbw, hsz, HU⟩ := hrel
    clear hbl hW hS
    have HT := Lib.hid (Lib.size_eq t)
    by_cases hlt : n < t.size
    · have hst := Lib.hid (Tt.foldGo_step t.data.toList.length n t.data.toList (by omega) (Nat.le_refl _) (by rw [← HT.out]; exact hlt))
      go_wp2_with fail
      refine (writeString_any _ _ _ _ _ hB (by rw [bs_size, bs_size, bs_extract_size t 0 n (by omega)]; show acc.length + (n - 0 + 2 + 1) ≤ _; omega) (by omega)).mono ?_
      rintro e w1 ⟨rfl, hB1, hbut1⟩
      have hsz3 := hbut1.size
      go_wp2_with fail
      go_roundw
      case rel =>
        refine ⟨t.extract n t.size, 74, _, rfl, rfl, by omega, by omega, by rw [bs_extract_size t n t.size (by omega)]; omega, ?_, hB1, hbw.trans (hbut1.below (Nat.le_refl _) (by omega)), by omega, ?_⟩
        · rw [bs_extract_size t n t.size (by omega), bs_app, bs_app, List.length_append, List.length_append, List.length_append, ← Lib.size_eq (t.extract 0 n), bs_extract_size t 0 n (by omega), show (⟨#[13, 10]⟩ : ByteArray).data.toList.length = 2 from rfl, show (⟨#[32]⟩ : ByteArray).data.toList.length = 1 from rfl]
          omega
        · show _ = _
          rw [← HU.out, hst.out, Lib.extract_to_end, bs_app, bs_app, Lib.extract_from_zero]
          simp
      case measure => simp [bs_extract_size t n t.size]; omega
    · have hst := Lib.hid (Tt.foldGo_end t.data.toList.length n t.data.toList (by rw [← HT.out]; exact hlt))
      go_wp2_with fail
      refine (writeString_any _ _ _ _ _ hB (by rw [bs_size]; show acc.length + (t.size + 2) ≤ _; omega) (by omega)).mono ?_
      rintro e w1 ⟨rfl, hB1, hbut1⟩
      have hsz3 := hbut1.size
      go_wp2_with fail
      refine (string_any _ _ _ _ hB1).mono ?_
      rintro e w2 ⟨rfl, hb1⟩
      go_wp2_with fail
      go_ret
      refine ⟨ret_str ?_, (hbw.trans (hbut1.below (Nat.le_refl _) (by omega))).trans hb1⟩
      rw [← HU.out, hst.out]

end Go.Proofs.YtageielcdebjlaaGreatDoor

-- Text
namespace Go.Proofs.YtageielcdebjlaaGreatDoor
open Go.RowKit

/-- A row from block B on is as it was where another block alone has been written. -/
theorem ownsRow_only {w w' : World} {B b : Nat} {e : TypeId} {size : Nat} {v : Value} {n : Nat} {xs : List Value} (h : w.ownsRow B e size v n xs) (hb : b < B) (ho : Only b w w') : w'.ownsRow B e size v n xs := by
  refine ⟨h.1, ?_⟩
  rcases h.2 with h1 | ⟨g, cap, cur, r1, r2, r3, r4⟩
  · exact .inl h1
  · exact .inr ⟨g, cap, cur, r1, r2, (ho.2.2.2.2 g (by omega)).trans r3, r4⟩

theorem Only.but {b B : Nat} {w w' : World} (h : Only b w w') : But b B w w' := ⟨h.1, h.2.1, h.2.2.1, by rw [h.2.2.2.1]; exact Nat.le_refl _, fun k _ hk => h.2.2.2.2 k hk⟩

/-- The dice behind whatever keeps all below B but block b, and block b itself. -/
theorem Dice.but {b B : Nat} {w w' : World} (h : Dice b w) (hb : b < B) (hw : But b B w w') (hs : w'.heap[b]? = w.heap[b]?) : Dice b w' :=
  h.kept hb ⟨hw.os, hw.tape, hw.output, hw.size, fun k hk => by
    by_cases e : k = b
    · rw [e, hs]
    · exact hw.block k hk e⟩

theorem string_of_row {w : World} {B : Nat} {v : Value} {l : List UInt8} (h : w.ownsRow B 5 1 v l.length (Lib.byteCells l)) : (convert 76 9 v).run Tryz.prog w = .ok (.string ⟨l.toArray⟩) w := by
  rcases h.2 with ⟨hv, h0⟩ | ⟨g, cap, cur, hv, r2, r3, r4⟩
  · have : l = [] := List.eq_nil_of_length_eq_zero h0
    subst this; subst hv
    exact run_convert_bytes_nil w 76 5 Tryz.underlying76 Tryz.underlying5 0 0 9 Tryz.underlying9
  · subst hv
    refine run_convert_bytes_back w 76 9 5 ⟨g, 0, none⟩ cap l Tryz.underlying76 Tryz.underlying5 Tryz.underlying9 (fun j hj => ?_)
    exact h.cells (g := g) rfl j _ (by simp [Lib.byteCells, hj])

set_option maxHeartbeats 4000000 in
set_option maxRecDepth 100000 in
theorem text_any (b : Nat) (sg : ByteArray) (m : Int) (w : World) (hd : Dice b w) (h1 : 1 ≤ sg.size) (h2 : sg.size ≤ 1000) (hm : 0 ≤ m) (hm2 : m ≤ 1000) :
    Calls Tryz.prog 34 #[.pointer (some ⟨b, 0, none⟩), .string sg, .int .i64 m] w fun e w' => ∃ x : List UInt8, e = .returned (.string ⟨x.toArray⟩) ∧ (x.length : Int) ≤ m ∧ (∀ c ∈ x, c ∈ sg.data.toList) ∧ Dice b w' ∧ But b w.heap.size w w' := by
  obtain ⟨i0, hi, hz0, hz1, hz2⟩ := info_parts infoByte
  have hblt := hd.lt
  go_enter Tryz.func34, Tryz.ntmps34
  go_wp2_with fail
  refine (next_any b (m + 1) _ hd (by omega) (by omega)).mono ?_
  rintro e w1 ⟨v0, rfl, hv0, hv1, _, hd1, ho1⟩
  have hv2 : v0 ≤ m := by have := hv1 (by omega); omega
  obtain ⟨k0, rfl⟩ : ∃ k0 : Nat, v0 = k0 := ⟨v0.toNat, by omega⟩
  have hs1 : w.heap.size ≤ w1.heap.size := by rw [ho1.2.2.2.1]; exact Nat.le_refl _
  clear hv1 hv0
  go_wp2_with fail
  go_loopw [7, 8] (fun v n wr => ∃ (k : Nat) (acc : List UInt8), n = .int .i64 k ∧ (acc.length : Int) + k ≤ m ∧ wr.ownsRow w.heap.size 5 1 v acc.length (Lib.byteCells acc) ∧ (∀ c ∈ acc, c ∈ sg.data.toList) ∧ Dice b wr ∧ But b w.heap.size w wr) (fun _ n _ => (intOf n).toNat)
  case atStart => exact ⟨k0, [], rfl, by simpa using hv2, World.ownsRow_nil _ _ _ _, by simp, hd1, ho1.but⟩
  case round =>
    clear hv2 hd1 ho1 hs1
    obtain ⟨k, acc, rfl, hk, hown, hin, hdr, hbut⟩ := hrel
    have hsz := hbut.size
    by_cases hlt : 0 < k
    · go_wp2_with fail
      refine (next_any b sg.size _ hdr (by omega) (by omega)).mono ?_
      rintro e w2 ⟨v1, rfl, hv0, hv1, _, hd2, ho2⟩
      have hv2 := hv1 (by omega)
      obtain ⟨j, rfl⟩ : ∃ j : Nat, v1 = j := ⟨v1.toNat, by omega⟩
      have hown2 := ownsRow_only hown hblt ho2
      have hlt2 : j < sg.size := by omega
      obtain ⟨c, hx⟩ : ∃ c : UInt8, sg[j]'hlt2 = c := ⟨_, rfl⟩
      have HC := Lib.hid (show c ∈ sg.data.toList from by
        have := Lib.data_getElem? sg j hlt2
        rw [hx] at this
        exact List.mem_of_getElem? this)
      have hbut2 := hbut.trans (ho2.but (B := w.heap.size))
      have hsz2 := hbut2.size
      clear hv1 ho2
      go_wp2_with (at_builtin; refine wpList_append_own _ rfl _ _ 76 rfl w.heap.size 5 i0 (.int .u8 0) 1 1 Tryz.underlying76 hi hz0 hz1 hz2 rfl (by decide) _ _ _ rfl (hown2.alloc _) ⟨w2.heap.size, 0, none⟩ 1 1 [.int .u8 c.toNat] rfl rfl ?c1 ?c2 ?c3 ?c4 ?c5 ?_)
      case c1 =>
        intro j u hj
        match j, hj with
        | 0, hj => simp at hj; subst hj; simp [Addr.add]
      case c2 => intro u hu; simp at hu; subst hu; rfl
      case c3 => unfold maxLen; omega
      case c4 => omega
      case c5 => simp; omega
      intro v' w3 hown' hgrow _
      have hblk : ∀ i, i < w.heap.size → w3.heap[i]? = w2.heap[i]? := by
        intro i hi
        rw [hgrow.block i (by simp; omega) (by intro e; have := (hown2.lt i e.symm).1; omega), Lib.alloc_old w2 _ i (by omega)]
      have hbel : Below w.heap.size w2 w3 := ⟨hgrow.os, hgrow.tape, hgrow.output, by have := hgrow.size; simp at this; omega, hblk⟩
      have hd3 := hd2.kept hblt hbel
      have hbut3 := hbut2.trans (But.of_below hbel)
      clear hgrow hblk hbel hown hown2 hdr hbut hd2
      go_wp2_with fail
      go_roundw
      case rel =>
        refine ⟨k - 1, acc ++ [c], by go_num, by simp; omega, by simpa [Lib.byteCells] using hown', ?_, hd3, hbut3⟩
        intro x hx
        rcases List.mem_append.1 hx with h | h
        · exact hin x h
        · simp at h; subst h; exact HC.out
      case measure => simp [intOf]; omega
    · have hcv := string_of_row hown
      go_wp2_with fail
      go_ret
      exact ⟨acc, rfl, by omega, hin, hdr, hbut⟩

end Go.Proofs.YtageielcdebjlaaGreatDoor

-- Same
namespace Go.Proofs.YtageielcdebjlaaGreatDoor
open Go.RowKit

/-- The strings of a slice that begins at 'ao'. -/
def StrAt (w : World) (ao : Option Addr) (xs : List ByteArray) : Prop := ∀ j x, xs[j]? = some x → ∃ a, ao = some a ∧ w.cell? (a.add j) = some (.string x)

theorem str_eq (x y : ByteArray) (h : x = y) : (x.toList == y.toList) = true := by rw [h]; exact beq_self_eq_true _
theorem str_ne (x y : ByteArray) (h : ¬ x = y) : (x.toList == y.toList) = false := by
  rw [beq_eq_false_iff_ne]; intro e; apply h
  rw [Lib.toList_data, Lib.toList_data] at e
  rw [← Lib.mk_data x, ← Lib.mk_data y, e]

set_option maxHeartbeats 2000000 in
set_option maxRecDepth 100000 in
theorem same_any (ao bo : Option Addr) (n m c d : Nat) (xs ys : List ByteArray) (hn : xs.length = n) (hm : ys.length = m) (hn2 : n ≤ 9223372036854775807) (hm2 : m ≤ 9223372036854775807) (w : World) (h1 : StrAt w ao xs) (h2 : StrAt w bo ys) :
    Calls Tryz.prog 43 #[.slice ao n c, .slice bo m d] w fun e w' => e = .returned (.bool (decide (xs = ys))) ∧ ∃ q, w' = w.drewN q := by
  have HN := Lib.hid hn
  have HM := Lib.hid hm
  have H1 := Lib.hid h1
  have H2 := Lib.hid h2
  clear hn hm h1 h2
  by_cases hl : n = m
  · subst hl
    have hq : ((n : Int) != (n : Int)) = false := by simp
    go_enter Tryz.func43, Tryz.ntmps43
    go_wp2_with fail
    go_loopw [5] (fun i wr => ∃ k q : Nat, k ≤ n ∧ i = .int .i64 k ∧ wr = w.drewN q ∧ Hid (∀ j, j < k → xs[j]? = ys[j]?)) (fun i _ => n - (intOf i).toNat)
    case atStart => exact ⟨0, 0, Nat.zero_le _, rfl, rfl, fun j hj => absurd hj (Nat.not_lt_zero _)⟩
    case round =>
      obtain ⟨k, q, hk, rfl, rfl, HE⟩ := hrel
      by_cases hlt : k < n
      · obtain ⟨x, hx⟩ : ∃ x, xs[k]? = some x := ⟨_, List.getElem?_eq_getElem (by rw [HN.out]; exact hlt)⟩
        obtain ⟨y, hy⟩ : ∃ y, ys[k]? = some y := ⟨_, List.getElem?_eq_getElem (by rw [HM.out]; exact hlt)⟩
        obtain ⟨a, rfl, ha⟩ := H1.out k x hx
        obtain ⟨b, rfl, hb⟩ := H2.out k y hy
        have HX := Lib.hid hx
        have HY := Lib.hid hy
        have hki : (k : Int) < (n : Int) := by omega
        clear hx hy
        by_cases he : x = y
        · have ht := str_eq x y he
          have HXY := Lib.hid he
          clear he
          go_wp2_with fail
          go_quiet (fail)
          go_wp2_with fail
          go_roundw
          case rel =>
            refine ⟨k + 1, _, by omega, by go_num, rfl, ?_⟩
            intro j hj
            by_cases e : j = k
            · rw [e, HX.out, HY.out, HXY.out]
            · exact HE.out j (by omega)
          case measure => simp [intOf]; omega
        · have ht := str_ne x y he
          have HF := Lib.hid (show decide (xs = ys) = false from decide_eq_false (fun e => he (by
            have h3 := HX.out
            rw [e, HY.out] at h3
            exact (Option.some.inj h3).symm)))
          clear he
          go_wp2_with fail
          go_quiet (fail)
          go_wp2_with fail
          go_ret
          rw [HF.out]
          exact ⟨rfl, _, by rw [World.drewN_drewN]⟩
      · go_wp2_with fail
        go_ret
        have : xs = ys := by
          apply List.ext_getElem?
          intro j
          by_cases hj : j < k
          · exact HE.out j hj
          · rw [List.getElem?_eq_none (by rw [HN.out]; omega), List.getElem?_eq_none (by rw [HM.out]; omega)]
        rw [decide_eq_true this]
        exact ⟨rfl, _, rfl⟩
  · have hq : ((n : Int) != (m : Int)) = true := by rw [bne_iff_ne]; omega
    have HF := Lib.hid (show decide (xs = ys) = false from decide_eq_false (fun e => hl (by rw [← HN.out, ← HM.out, e])))
    clear hl
    go_enter Tryz.func43, Tryz.ntmps43
    go_wp2_with fail
    go_ret
    rw [HF.out]
    exact ⟨rfl, 0, rfl⟩
end Go.Proofs.YtageielcdebjlaaGreatDoor
