/- timetablelaw40.short over one event: its contract: an answer. timetableref17.SameInts: its contract. The law's awake: its contract. FeedTexts: the walk. -/
import Derived.Test.YtageielcdebjlaaGreatDoorRowF
import Derived.Test.YtageielcdebjlaaGreatDoorRowZ
import Derived.Test.YtageielcdebjlaaGreatDoorParseAll
-- Short
namespace Go.Proofs.YtageielcdebjlaaGreatDoor
open Go.RowKit

def SomeBool (w : World) (x : Ending) (w' : World) : Prop := ∃ z : Bool, x = .returned (.bool z) ∧ Below w.heap.size w w'
def ShortR (n : ByteArray) (v : Int) (g : Nat) (e : Ev) (p p' : Option Addr) (ex xt c c' : Nat) (w : World) (iv : Value) (wr : World) : Prop := ∃ k : Int, iv = .int .i64 k ∧ 0 ≤ k ∧ k ≤ 1 ∧ Hid (Below w.heap.size w wr) ∧ Hid (Blk w.heap.size #[.string n, .int .i64 v, .slice (some ⟨g, 0, none⟩) 1 1] 26 wr) ∧ Hid (EvC g 0 e (.slice p ex c) (.slice p' xt c') wr)

set_option maxHeartbeats 16000000 in
set_option maxRecDepth 100000 in
theorem short44 (n : ByteArray) (v : Int) (g : Nat) (e : Ev) (p p' : Option Addr) (c c' : Nat) (w : World) (hg : g < w.heap.size) (hE : EvC g 0 e (.slice p e.days.ex.length c) (.slice p' e.days.xt.length c') w) (hb : EvB e) :
    Calls Tryz.prog 44 #[.agg #[.string n, .int .i64 v, .slice (some ⟨g, 0, none⟩) 1 1]] w (SomeBool w) := by
  have hbx := below_box w (.cells #[.string n, .int .i64 v, .slice (some ⟨g, 0, none⟩) 1 1] 26)
  have HB0 := Lib.hid (Blk.new w #[.string n, .int .i64 v, .slice (some ⟨g, 0, none⟩) 1 1] 26)
  have hE0 := hE.below hg hbx
  have HE0 := Lib.hid hE0
  obtain ⟨h1, h2, h3, h4, h5⟩ := hb
  clear hE hE0
  obtain ⟨ex, hex⟩ : ∃ n, n = e.days.ex.length := ⟨_, rfl⟩
  obtain ⟨xt, hxt⟩ : ∃ n, n = e.days.xt.length := ⟨_, rfl⟩
  rw [← hex, ← hxt] at HE0
  rw [← hex] at h1
  rw [← hxt] at h2
  clear hex hxt
  go_enter Tryz.func44, Tryz.ntmps44
  go_wp2_with fail
  go_loopw [3] (fun iv wr => ShortR n v g e p p' ex xt c c' w iv wr) (fun iv _ => (1 - intOf iv).toNat)
  case atStart => exact ⟨0, rfl, by omega, by omega, Lib.hid hbx, HB0, HE0⟩
  case round =>
    clear HB0 HE0 hbx
    obtain ⟨k, rfl, k0, k1, HK, HB, HE⟩ := hrel
    have f2 : wr.cell? ⟨w.heap.size, 2, none⟩ = some (.slice (some ⟨g, 0, none⟩) 1 1) := HB.out.cell 2
    rcases (show k = 0 ∨ k = 1 by omega) with rfl | rfl
    · obtain ⟨c0, c1, c2, c3, c4, c5, c6, c7, c8, c9, c10, c11, c12⟩ := HE.out
      simp only [Nat.zero_add] at c0 c1 c2 c3 c4 c5 c6 c7 c8 c9 c10 c11 c12
      have hbe := HK.out.trans ((below_box wr (.cells #[.string e.uid, .int .i64 e.seq, .bool e.canc, .int .i64 e.days.first, .int .i64 e.days.last, .int .i64 e.days.every, .int .i64 e.days.wd, .slice p ex c, .slice p' xt c', .int .i64 e.start, .int .i64 e.mins, .string e.summ, .string e.loc] 82)).mono HK.out.size)
      have HK2 := Lib.hid hbe
      have HB2 := Lib.hid (HB.out.alloc (.cells #[.string e.uid, .int .i64 e.seq, .bool e.canc, .int .i64 e.days.first, .int .i64 e.days.last, .int .i64 e.days.every, .int .i64 e.days.wd, .slice p ex c, .slice p' xt c', .int .i64 e.start, .int .i64 e.mins, .string e.summ, .string e.loc] 82))
      have HE2 := Lib.hid (HE.out.below (by have := HK.out.size; omega) (below_box wr (.cells #[.string e.uid, .int .i64 e.seq, .bool e.canc, .int .i64 e.days.first, .int .i64 e.days.last, .int .i64 e.days.every, .int .i64 e.days.wd, .slice p ex c, .slice p' xt c', .int .i64 e.start, .int .i64 e.mins, .string e.summ, .string e.loc] 82)))
      clear hbe
      go_wp2_with fail
      all_goals first
        | (go_ret; refine ⟨false, ?_, HK2.out⟩; rfl)
        | (go_roundw
           case rel => exact ⟨1, rfl, by omega, by omega, HK2, HB2, HE2⟩
           case measure => simp [intOf])
    · go_wp2_with fail
      go_ret
      refine ⟨true, ?_, HK.out⟩
      rfl
end Go.Proofs.YtageielcdebjlaaGreatDoor

-- Law10a
namespace Go.Proofs.YtageielcdebjlaaGreatDoor
open Go.RowKit

theorem RowI.few {lo : Nat} {w : World} {v : Value} {xs : List Int} (h : RowI lo w v xs) : xs.length ≤ 9223372036854775807 := by
  rcases h.2 with ⟨_, h0⟩ | ⟨g, cap, cur, _, _, _, r4, r5, _⟩
  · omega
  · unfold maxLen at r5; omega
theorem ints_row {w : World} {lo : Nat} {u : Value} {xs : List Int} (h : w.ownsRow lo 3 1 u xs.length (xs.map (Value.int .i64))) : ∃ ao c, u = .slice ao xs.length c ∧ Ints w.heap.size w ao xs := (show RowI lo w u xs from h).ints

set_option maxHeartbeats 4000000 in
set_option maxRecDepth 100000 in
theorem sameints57 (xs ys : List Int) (ao bo : Option Addr) (c d : Nat) (w : World) (B : Nat) (hX : Ints B w ao xs) (hY : Ints B w bo ys) (hn : xs.length ≤ 9223372036854775807) :
    Calls Tryz.prog 57 #[.slice ao xs.length c, .slice bo ys.length d] w fun e w' => e = .returned (.bool (decide (xs = ys))) ∧ ∃ n, w' = w.drewN n := by
  by_cases hl : xs.length = ys.length
  · have HX := Lib.hid hX
    have HY := Lib.hid hY
    clear hX hY
    obtain ⟨n, hn1⟩ : ∃ n, n = xs.length := ⟨_, rfl⟩
    rw [← hl]
    rw [← hn1] at hn ⊢
    have hn2 : n ≤ 9223372036854775807 := hn
    clear hn
    have HN := Lib.hid hn1
    have HL := Lib.hid hl
    clear hn1 hl
    go_enter Tryz.func57, Tryz.ntmps57
    go_wp2_with fail
    go_loopw [5] (fun iv wr => ∃ k : Nat, k ≤ n ∧ iv = .int .i64 k ∧ (∃ q, wr = w.drewN q) ∧ Hid (∀ j, j < k → xs[j]? = ys[j]?)) (fun iv _ => n - (intOf iv).toNat)
    case atStart => exact ⟨0, Nat.zero_le _, rfl, ⟨0, rfl⟩, Lib.hid (fun j h => absurd h (Nat.not_lt_zero _))⟩
    case round =>
      obtain ⟨k, hk, rfl, ⟨q, hq⟩, HE⟩ := hrel
      subst hq
      by_cases hlt : k < n
      · have hx : k < xs.length := by rw [← HN.out]; exact hlt
        have hy : k < ys.length := by rw [← HL.out]; exact hx
        obtain ⟨a, rfl, -, hca⟩ := HX.out k _ (List.getElem?_eq_getElem hx)
        obtain ⟨a', rfl, -, hcb⟩ := HY.out k _ (List.getElem?_eq_getElem hy)
        obtain ⟨x, hxe⟩ : ∃ x, x = xs[k] := ⟨_, rfl⟩
        obtain ⟨y, hye⟩ : ∃ y, y = ys[k] := ⟨_, rfl⟩
        rw [← hxe] at hca
        rw [← hye] at hcb
        have HXE := Lib.hid hxe
        have HYE := Lib.hid hye
        clear hxe hye
        have hlt2 : (k : Int) < n := by omega
        by_cases he : x = y
        · have hb : (x != y) = false := by simp [he]
          have HS := Lib.hid (show ∀ j, j < k + 1 → xs[j]? = ys[j]? from by
            intro j hj
            rcases Nat.lt_or_ge j k with h | h
            · exact HE.out j h
            · obtain rfl : j = k := by omega
              rw [List.getElem?_eq_getElem hx, List.getElem?_eq_getElem hy, ← HXE.out, ← HYE.out, he])
          clear he
          go_wp2_with fail
          go_quiet (fail)
          go_wp2_with fail
          go_roundw
          case rel => exact ⟨k + 1, by omega, by go_num, ⟨_, rfl⟩, HS⟩
          case measure => simp [intOf]; omega
        · have hb : (x != y) = true := by simp [he]
          have HD := Lib.hid (show decide (xs = ys) = false from by
            rw [decide_eq_false_iff_not]
            intro e
            exact he (by rw [HXE.out, HYE.out]; simp [e]))
          clear he
          go_wp2_with fail
          go_quiet (fail)
          go_wp2_with fail
          go_ret
          exact ⟨ret_bool HD.out.symm, q + nq, by unfold World.drewN; simp [Nat.add_assoc]⟩
      · have HD := Lib.hid (show decide (xs = ys) = true from by
          rw [decide_eq_true_iff]
          apply List.ext_getElem? 
          intro j
          rcases Nat.lt_or_ge j k with h | h
          · exact HE.out j h
          · have h1 : xs.length ≤ j := by rw [← HN.out]; omega
            have h2 : ys.length ≤ j := by rw [← HL.out]; exact h1
            rw [List.getElem?_eq_none h1, List.getElem?_eq_none h2])
        have hlt2 : ¬ (k : Int) < n := by omega
        go_wp2_with fail
        go_ret
        exact ⟨ret_bool HD.out.symm, _, rfl⟩
  · have hd : decide (xs = ys) = false := by
      rw [decide_eq_false_iff_not]; intro e; exact hl (by rw [e])
    have HD := Lib.hid hd
    have hb : (((xs.length : Int) != ys.length) = true) := by
      rw [bne_iff_ne]; intro e; exact hl (by omega)
    clear hl hd
    go_enter Tryz.func57, Tryz.ntmps57
    go_wp2_with fail
    go_ret
    exact ⟨ret_bool HD.out.symm, 0, rfl⟩
end Go.Proofs.YtageielcdebjlaaGreatDoor

-- Awake
namespace Go.Proofs.YtageielcdebjlaaGreatDoor
open Go.RowKit

/-- The name 'a', the zone 'z', the text of that feed. -/
def nA : ByteArray := ⟨#[97]⟩
def nZ : ByteArray := ⟨#[122]⟩
def awakeText : List UInt8 := [66, 69, 71, 73, 78, 58, 86, 67, 65, 76, 69, 78, 68, 65, 82, 13, 10, 86, 69, 82, 83, 73, 79, 78, 58, 50, 46, 48, 13, 10, 80, 82, 79, 68, 73, 68, 58, 45, 47, 47, 116, 105, 109, 101, 116, 97, 98, 108, 101, 47, 47, 69, 78, 13, 10, 78, 65, 77, 69, 58, 97, 13, 10, 82, 69, 86, 73, 83, 73, 79, 78, 58, 48, 13, 10, 69, 78, 68, 58, 86, 67, 65, 76, 69, 78, 68, 65, 82, 13, 10]

theorem dig0 : Lib.decDigits 0 = [48] := by unfold Lib.decDigits; simp
theorem atoi0 : Lib.atoi (Lib.decDigits 0) = some ((0 : Nat) : Int) := by rw [dig0]; decide
theorem codeA : Tt.code nA.data.toList = true := by decide
theorem codeZ : Tt.code nZ.data.toList = true := by decide
theorem folds0 : (lines0 nA 0).flatMap (fun l => Tt.fold l.data.toList) = awakeText := by
  unfold lines0; rw [dig0]; decide
theorem unf0 : Tt.unf awakeText = some ((lines0 nA 0).map (·.data.toList)) := by
  unfold lines0; rw [dig0]; decide
theorem sizes0 : ∀ x ∈ lines0 nA 0, x.size ≤ 100000 := by
  unfold lines0; rw [dig0]; intro x hx
  simp only [List.mem_cons, List.not_mem_nil, or_false] at hx
  rcases hx with rfl | rfl | rfl | rfl | rfl | rfl
  all_goals decide
theorem esc0 : Tt.esc [97, 44, 98] = [97, 92, 44, 98] := by decide

theorem format_awake (w : World) : Calls Tryz.prog 48 #[.agg #[.string nA, .int .i64 0, .slice none 0 0], .string nZ] w fun e w' => e = .returned (.tuple #[.string (str awakeText), .int .i64 0]) ∧ Below w.heap.size w w' := by
  have := format_none nA nZ 0 codeA codeZ (by decide) (by decide) (by rw [dig0]; decide) sizes0 (by rw [folds0]; decide) w
  rw [folds0] at this
  exact this
theorem parse_awake (w : World) (m : Int) (hm : w.cell? ⟨0, 0, none⟩ = some (.int .i64 m)) (h0 : 0 < w.heap.size) : Calls Tryz.prog 50 #[.string (str awakeText), .string nZ] w fun e w' => e = .returned (.tuple #[.agg #[.string nA, .int .i64 0, .slice none 0 0], .int .i64 0]) ∧ Below w.heap.size w w' :=
  parse_none (str awakeText) nA nZ 0 (by decide) codeA codeZ (by decide) (by decide) (by rw [dig0]; decide) atoi0 unf0 w m hm h0
theorem escape_awake (w : World) : Calls Tryz.prog 39 #[.string ⟨#[97, 44, 98]⟩] w fun e w' => e = .returned (.string ⟨#[97, 92, 44, 98]⟩) ∧ Below w.heap.size w w' := by
  have := escape_any ⟨#[97, 44, 98]⟩ w (by decide)
  refine this.mono ?_
  rintro e w' ⟨h1, h2⟩
  refine ⟨?_, h2⟩
  rw [h1]
  exact ret_str esc0
theorem awakeText_list : ((str awakeText).toList == awakeText) = true := by rw [Lib.toList_data]; exact beq_self_eq_true _
theorem nA_list : (nA.toList == [97]) = true := by rw [Lib.toList_data]; decide

set_option maxHeartbeats 4000000 in
set_option maxRecDepth 100000 in
theorem awake_any (w : World) (m : Int) (hm : w.cell? ⟨0, 0, none⟩ = some (.int .i64 m)) (h0 : 0 < w.heap.size) :
    Calls Tryz.prog 33 #[] w fun e w' => e = .returned (.bool true) ∧ Below w.heap.size w w' := by
  go_enter Tryz.func33, Tryz.ntmps33
  go_wp2_with fail
  refine (format_awake w).mono ?_
  rintro e w1 ⟨rfl, hb1⟩
  have hm1 := (hb1.cell (p := ⟨0, 0, none⟩) h0).trans hm
  have h01 : 0 < w1.heap.size := Nat.lt_of_lt_of_le h0 hb1.size
  have s1 := hb1.size
  clear hm
  go_wp2_with fail
  refine (parse_awake w1 m hm1 h01).mono ?_
  rintro e w2 ⟨rfl, hb2⟩
  have s2 := hb2.size
  have hA := nA_list
  go_wp2_with fail
  refine (escape_awake _).mono ?_
  rintro e w3 ⟨rfl, hb3⟩
  go_wp2_with fail
  go_ret
  refine ⟨?_, ?_⟩
  · show Ending.returned (.bool ((str awakeText).toList == awakeText)) = _
    rw [awakeText_list]
  · exact (((hb1.trans (hb2.mono s1)).alloc (by omega) _).trans (hb3.mono (by simp; omega)))
end Go.Proofs.YtageielcdebjlaaGreatDoor

-- Law7
namespace Go.Proofs.YtageielcdebjlaaGreatDoor
open Go.RowKit

/-- The whole numbers of a slice. -/
def Nums (w : World) (ao : Option Addr) (len : Nat) : Prop := ∀ i, i < len → ∃ a n, ao = some a ∧ a.block < w.heap.size ∧ w.cell? (a.add i) = some (.int .i64 n) ∧ -9223372036854775808 ≤ n ∧ n ≤ 9223372036854775807

theorem Nums.below {w w' : World} {ao : Option Addr} {len : Nat} (h : Nums w ao len) (hw : Below w.heap.size w w') : Nums w' ao len := fun i hi => by
  obtain ⟨a, n, ha, hlt, hc, hn⟩ := h i hi
  exact ⟨a, n, ha, Nat.lt_of_lt_of_le hlt hw.size, (hw.cell (p := a.add i) (by rw [addr_add_block]; omega)).trans hc, hn⟩

set_option maxRecDepth 100000 in
theorem light_any (ao : Option Addr) (len cap : Nat) (w : World) :
    Calls Tryz.prog 15 #[.slice ao len cap] w fun e w' => e = .returned (.bool (decide ((len : Int) ≤ 400))) ∧ w' = w := by
  go_enter Tryz.func15, Tryz.ntmps15
  go_wp2_with fail
  go_ret
  exact ⟨rfl, rfl⟩

set_option maxRecDepth 100000 in
theorem roll_any (ao : Option Addr) (len cap : Nat) (w : World) (hl : len ≤ 400) (hn : Nums w ao len) :
    Calls Tryz.prog 18 #[.slice ao len cap] w fun e w' => e = .returned (.pointer (some ⟨w.heap.size, 0, none⟩)) ∧ Dice w.heap.size w' ∧ Below w.heap.size w w' ∧ w.heap.size + 1 ≤ w'.heap.size := by
  go_enter Tryz.func18, Tryz.ntmps18
  go_wp2_with fail
  go_ret
  have hb : Below w.heap.size w (w.alloc (.cells #[.slice ao len cap, .int .i64 0] 124)) := (Below.refl _ w).alloc (Nat.le_refl _) _
  refine ⟨rfl, ⟨ao, len, cap, 0, ⟨heap_alloc_new w _, Nat.zero_le _, hl, fun i hi => ?_⟩⟩, hb, by simp⟩
  obtain ⟨a, n, ha, hlt, hc, hn⟩ := hn i hi
  exact ⟨a, n, ha, hlt, (hb.cell (p := a.add i) (by rw [addr_add_block]; omega)).trans hc, hn⟩

theorem ownsRow_but {b : Nat} {w w' : World} {e : TypeId} {size : Nat} {v : Value} {n : Nat} {xs : List Value} (h : w.ownsRow (b + 1) e size v n xs) (ho : But b w.heap.size w w') : w'.ownsRow (b + 1) e size v n xs := by
  refine ⟨h.1, ?_⟩
  rcases h.2 with h1 | ⟨g, cap, cur, r1, r2, r3, r4⟩
  · exact .inl h1
  · exact .inr ⟨g, cap, cur, r1, r2, (ho.block g (Array.getElem?_eq_some_iff.1 r3).1 (by omega)).trans r3, r4⟩

/-- A line of the law: clean, and it does not begin as a continuation. -/
def LineOk (x : ByteArray) : Prop := Tt.Clean x.data.toList ∧ Tt.begins x.data.toList = false

theorem line_ok (x : ByteArray) (t : List UInt8) (ht : x.data.toList = 120 :: t) (h : ∀ c ∈ t, c ∈ [97, 98, 99, 59, 32]) : LineOk x := by
  refine ⟨?_, by rw [ht]; rfl⟩
  intro c hc
  rw [ht] at hc
  rcases List.mem_cons.1 hc with rfl | hc
  · decide
  · have := h c hc
    simp only [List.mem_cons, List.not_mem_nil, or_false] at this
    rcases this with rfl | rfl | rfl | rfl | rfl
    all_goals decide

theorem flat_map (out : List ByteArray) : out.flatMap (fun x => Tt.fold x.data.toList) = (out.map (·.data.toList)).flatMap Tt.fold := by
  rw [List.flatMap_map]
theorem unf_out (out : List ByteArray) (T : ByteArray) (hT : T.data.toList = out.flatMap (fun x => Tt.fold x.data.toList)) (hO : ∀ x ∈ out, LineOk x) (hne : 1 ≤ out.length) : Tt.unf T.data.toList = some (out.map (·.data.toList)) := by
  rw [hT, flat_map]
  refine Tt.unf_folds _ ?_ ?_ ?_
  · intro h
    have := congrArg List.length h
    simp at this
    rw [this] at hne; simp at hne
  · intro l hl
    obtain ⟨x, hx, rfl⟩ := List.mem_map.1 hl
    exact (hO x hx).1
  · intro l hl
    obtain ⟨x, hx, rfl⟩ := List.mem_map.1 hl
    exact (hO x hx).2
theorem okW_out (out : List ByteArray) (T : ByteArray) (hT : T.data.toList = out.flatMap (fun x => Tt.fold x.data.toList)) (hO : ∀ x ∈ out, LineOk x) : Tt.okW 0 (T.data.toList.drop 0) = true := by
  rw [List.drop_zero, hT, flat_map]
  refine Tt.okW_folds _ ?_
  intro l hl
  obtain ⟨x, hx, rfl⟩ := List.mem_map.1 hl
  exact (hO x hx).1

set_option maxHeartbeats 8000000 in
set_option maxRecDepth 100000 in
theorem law7 (s : ByteArray) (ao : Option Addr) (len cap : Nat) (w : World) (m : Int) (hm : w.cell? ⟨0, 0, none⟩ = some (.int .i64 m)) (h0 : 0 < w.heap.size) (hn : Nums w ao len) :
    Calls Tryz.prog 7 #[.string s, .slice ao len cap] w fun e w' => e = .returned (.bool true) ∧ Below w.heap.size w w' := by
  have HN := Lib.hid hn
  clear hn
  by_cases hlen : (len : Int) ≤ 400
  · have hd1 : decide ((len : Int) ≤ 400) = true := decide_eq_true hlen
    by_cases hsz : (2000 : Int) < (s.size : Int)
    · go_enter Tryz.func7, Tryz.ntmps7
      go_wp2_with fail
      refine (light_any _ _ _ _).mono ?_
      rintro e w1 ⟨rfl, hw⟩
      rw [hw, hd1]
      clear hw w1
      go_wp2_with fail
      refine (awake_any w m hm h0).mono ?_
      rintro e w1 ⟨rfl, hb1⟩
      go_wp2_with fail
      go_ret
      exact ⟨rfl, hb1⟩
    · have hs2 : s.size ≤ 2000 := by omega
      go_enter Tryz.func7, Tryz.ntmps7
      go_wp2_with fail
      refine (light_any _ _ _ _).mono ?_
      rintro e w1 ⟨rfl, hw⟩
      rw [hw, hd1]
      clear hw w1
      go_wp2_with fail
      refine (escape_any s w (by omega)).mono ?_
      rintro e w1 ⟨rfl, hb1⟩
      go_wp2_with fail
      refine (unescape_any _ w1 ?_).mono ?_
      · show (Tt.esc s.data.toList).toArray.size ≤ _
        have := Tt.esc_length s.data.toList
        rw [← Lib.size_eq] at this
        rw [List.size_toArray]; omega
      rintro e w2 ⟨rfl, hb2⟩
      have hu1 : unescS (⟨(Tt.esc s.data.toList).toArray⟩ : ByteArray).data.toList = s := by
        show (⟨((Tt.unesc (Tt.esc s.data.toList)).getD []).toArray⟩ : ByteArray) = s
        rw [Tt.unesc_esc]; exact Lib.mk_data s
      have hu2 : unescB (⟨(Tt.esc s.data.toList).toArray⟩ : ByteArray).data.toList = true := by
        show (Tt.unesc (Tt.esc s.data.toList)).isSome = true
        rw [Tt.unesc_esc]; rfl
      rw [hu1, hu2]
      have L2 : Below w.heap.size w w2 := hb1.trans (hb2.mono hb1.size)
      have N2 := HN.out.below L2
      have hm2 := (L2.cell (p := ⟨0, 0, none⟩) h0).trans hm
      have s2 := L2.size
      clear hb1 hb2 hu1 hu2 hm
      go_wp2_with fail
      refine (roll_any ao len cap w2 (by omega) N2).mono ?_
      rintro e w3 ⟨rfl, D3, hb3, s3⟩
      obtain ⟨b, hb⟩ : ∃ b, b = w2.heap.size := ⟨_, rfl⟩
      rw [← hb] at D3 hb3 s3 s2 ⊢
      have L3 := L2.trans (hb3.mono s2)
      have hm3 := (hb3.cell (p := ⟨0, 0, none⟩) (by simp; omega)).trans hm2
      clear hb N2 hm2 L2 hb3
      go_wp2_with fail
      refine (next_any b 4 _ D3 (by omega) (by omega)).mono ?_
      rintro e w4 ⟨v0, rfl, hv0, hv1, _, D4, O4⟩
      have hv2 := hv1 (by omega)
      have L4 := L3.trans (O4.below s2)
      have s4 : b + 1 ≤ w4.heap.size := by rw [O4.2.2.2.1]; exact s3
      have hmb : Hid (w4.cell? ⟨0, 0, none⟩ = some (.int .i64 m)) := (World.cell?_of_block (w := w3) (O4.2.2.2.2 0 (by omega))).trans hm3
      have hwr1 : IntKind.i64.wrap (1 + v0) = 1 + v0 := by rw [IntKind.wrap_i64]; omega
      clear D3 O4 L3 hm3 hv1
      go_wp2_with fail
      obtain ⟨i1, hj, hy0, hy2, hy3⟩ := info_parts infoString
      go_loopw [8, 9, 10] (fun lv tv rv wr => ∃ (out : List ByteArray) (T : ByteArray) (r : Nat), tv = .string T ∧ rv = .int .i64 r ∧ out.length + r ≤ 4 ∧ 1 ≤ out.length + r ∧ wr.ownsRow (b + 1) 9 1 lv out.length (out.map Value.string) ∧ Dice b wr ∧ But b (b + 1) w4 wr ∧ T.size ≤ 2000 * out.length ∧ Hid (T.data.toList = out.flatMap (fun x => Tt.fold x.data.toList)) ∧ Hid (∀ x ∈ out, LineOk x)) (fun _ _ rv _ => (intOf rv).toNat)
      case atStart => exact ⟨[], ⟨#[]⟩, (1 + v0).toNat, rfl, by go_num, by simp; omega, by simp; omega, World.ownsRow_nil _ _ _ _, D4, But.refl _ _ _, by decide, rfl, by intro x hx; cases hx⟩
      case round =>
        obtain ⟨out, T, r, rfl, rfl, hr1, hr2, hown, hD, hbut, hT, HT, HO⟩ := hrel
        have hsr := hbut.size
        by_cases hlt : 0 < r
        · go_wp2_with fail
          refine (next_any b 5 _ hD (by omega) (by omega)).mono ?_
          rintro e w5 ⟨v1, rfl, hw0, hw1, _, D5, O5⟩
          have hw2 := hw1 (by omega)
          have hown5 : w5.ownsRow (b + 1) 9 1 u8 out.length (out.map Value.string) := ownsRow_but hown O5.but
          have but5 := hbut.trans (O5.but (B := b + 1))
          have s5 := but5.size
          clear hown hD O5 hbut hsr hw1
          go_wp2_with fail
          go_loopw [11, 12] (fun sv kv wx => ∃ (x : ByteArray) (j : Nat), sv = .string x ∧ kv = .int .i64 j ∧ x.size + 60 * j ≤ 241 ∧ wx.ownsRow (b + 1) 9 1 u8 out.length (out.map Value.string) ∧ Dice b wx ∧ But b (b + 1) w4 wx ∧ Hid (∃ t, x.data.toList = 120 :: t ∧ ∀ c ∈ t, c ∈ [97, 98, 99, 59, 32])) (fun _ kv _ => (intOf kv).toNat)
          case atStart => exact ⟨⟨#[120]⟩, v1.toNat, rfl, by go_num, by show 1 + 60 * v1.toNat ≤ 241; omega, hown5, D5, but5, [], rfl, by intro c hc; cases hc⟩
          case round =>
            clear hown5 D5 but5 s5 hw0 hw2
            obtain ⟨x, j, rfl, rfl, hx, hown, hD, hbut, HX⟩ := hrel
            have hsr := hbut.size
            by_cases hlt2 : 0 < j
            · go_wp2_with fail
              refine (text_any b ⟨#[97, 98, 99, 59, 32]⟩ 60 _ hD (by decide) (by decide) (by decide) (by decide)).mono ?_
              rintro e w6 ⟨y, rfl, hy1, hyin, D6, B6⟩
              have hown6 := ownsRow_but hown B6
              have hs6 : But b (b + 1) w4 w6 := hbut.trans ⟨B6.os, B6.tape, B6.output, B6.size, fun k hk hkb => B6.block k (by omega) hkb⟩
              have hys : (⟨y.toArray⟩ : ByteArray).size ≤ 60 := by rw [Lib.size_eq]; show y.length ≤ 60; omega
              have HY := Lib.hid hyin
              clear hown hD hbut B6 hyin
              go_wp2_with fail
              go_roundw
              case rel =>
                refine ⟨x ++ ⟨y.toArray⟩, j - 1, by go_num, by go_num, by rw [bs_size]; omega, hown6, D6, hs6, ?_⟩
                obtain ⟨t, ht, htt⟩ := HX.out
                refine ⟨t ++ y, by rw [bs_app, ht]; rfl, ?_⟩
                intro c hc
                rcases List.mem_append.1 hc with h | h
                · exact htt c h
                · exact HY.out c h
              case measure => simp [intOf]; omega
            · have hxs : x.size ≤ 241 := by omega
              have HL : Hid (LineOk x) := by
                obtain ⟨t, ht, htt⟩ := HX.out
                exact line_ok x t ht htt
              clear HX hx
              go_wp2_with (at_builtin; refine wpList_append_own _ rfl (.tmp 58) (.tmp 60) 60 rfl (b + 1) 9 i1 (.string ⟨#[]⟩) 1 16 Tryz.underlying60 hj hy0 hy2 hy3 rfl (by decide) _ _ _ rfl (hown.alloc _) ⟨wr.heap.size, 0, none⟩ 1 1 [.string x] rfl rfl (cell_one _ _ _) (by intro u hu; simp at hu; subst hu; rfl) (by unfold maxLen; omega) (by omega) (by simp; omega) ?_)
              intro v' w7 hown7 hgrow _
              have hbel : Below (b + 1) wr w7 := ((Below.refl _ wr).alloc (by omega) _).grown hgrow (by simp; omega) (fun k hk => (hown.lt k hk).1)
              have D7 := hD.kept (Nat.lt_succ_self b) hbel
              have but7 := hbut.trans (But.of_below (b := b) hbel)
              have s7 := but7.size
              clear hgrow hown hbel hD hbut
              go_wp2_with fail
              refine (fold_any x w7 (by omega)).mono ?_
              rintro e w8 ⟨rfl, hb8⟩
              have hown8 := ownsRow_below hown7 hb8
              have D8 := D7.kept (Nat.lt_of_lt_of_le (Nat.lt_succ_self b) (Nat.le_trans s4 s7)) hb8
              have but8 := but7.trans (But.of_below (b := b) (hb8.mono (Nat.le_trans s4 s7)))
              have hfl : (⟨(Tt.fold x.data.toList).toArray⟩ : ByteArray).size ≤ 2000 := by
                have := Tt.fold_length x.data.toList
                rw [← Lib.size_eq] at this
                rw [Lib.size_eq]; show (Tt.fold x.data.toList).length ≤ 2000; omega
              clear hown7 D7 but7 hb8
              go_wp2_with fail
              go_roundw
              case rel =>
                refine ⟨out ++ [x], T ++ ⟨(Tt.fold x.data.toList).toArray⟩, r - 1, rfl, by go_num, by simp; omega, by simp; omega, by simpa using hown8, D8, but8, by rw [bs_size, List.length_append]; simp only [List.length_cons, List.length_nil]; omega, ?_, ?_⟩
                · show _ = _
                  rw [bs_app, HT.out, List.flatMap_append]; simp
                · intro y hy
                  rcases List.mem_append.1 hy with h | h
                  · exact HO.out y h
                  · rw [List.mem_singleton.1 h]; exact HL.out
              case measure => simp [intOf]; omega
        · go_wp2_with fail
          have hm8 : wr.cell? ⟨0, 0, none⟩ = some (.int .i64 m) := (hbut.cell (p := ⟨0, 0, none⟩) (by simp) (by simp; omega)).trans hmb.out
          refine (unfold_any T (by omega) wr m hm8).mono ?_
          rintro e w9 ⟨hU, hb9⟩
          have HUF := Lib.hid (unf_out out T HT.out HO.out (by omega))
          obtain ⟨g, cap2, xs, hxs, rfl, hstr, hg1, hg2⟩ : ∃ (g cap : Nat) (xs : List ByteArray), xs = out ∧ e = .returned (.tuple #[.slice (some ⟨g, 0, none⟩) xs.length cap, .bool true]) ∧ StrAt w9 (some ⟨g, 0, none⟩) xs ∧ wr.heap.size ≤ g ∧ g < w9.heap.size := by
            rcases hU with ⟨h1, _⟩ | ⟨g, cap, xs, h1, h2, h3, h4, h5, _⟩
            · rw [HUF.out] at h1; cases h1
            · rw [HUF.out] at h1
              exact ⟨g, cap, xs, (map_data_inj (Option.some.inj h1)).symm, h2, h3, h4, h5⟩
          have hown9 := ownsRow_below hown hb9
          obtain ⟨g1, cap1, hv8, hstr8⟩ : ∃ g1 cap1, u8 = .slice (some ⟨g1, 0, none⟩) out.length cap1 ∧ StrAt w9 (some ⟨g1, 0, none⟩) out := by
            have ho := hown9
            rcases hown9.2 with ⟨_, hz⟩ | ⟨g1, cap1, cur, hv, _⟩
            · omega
            · refine ⟨g1, cap1, hv, ?_⟩
              rw [hv] at ho
              intro j x hx
              exact ⟨_, rfl, ho.cells (g := g1) rfl j (.string x) (by rw [List.getElem?_map, hx]; rfl)⟩
          have L9 := ((L4.trans (hbut.below (by omega) (by omega))).trans (hb9.mono (by omega)))
          have s9 := hb9.size
          have hm9 : w9.cell? ⟨0, 0, none⟩ = some (.int .i64 m) := (hb9.cell (p := ⟨0, 0, none⟩) (by simp; omega)).trans hm8
          have H9 := Lib.hid hm9
          have H10 := Lib.hid hstr
          have H11 := Lib.hid hstr8
          have HXS := Lib.hid hxs
          have HW := Lib.hid (okW_out out T HT.out HO.out)
          have hxl : xs.length ≤ 4 := by rw [hxs]; omega
          clear hm8 hU hown hown9 hD hbut hb9 hstr hstr8 hm9 hxs
          subst hv8
          go_wp2_with fail
          go_loopw [15, 16] (fun wv iv wx => ∃ (k c : Nat), wv = .int .i64 c ∧ iv = .int .i64 k ∧ k ≤ T.size ∧ c ≤ k ∧ wx = w9 ∧ Hid (Tt.okW c (T.data.toList.drop k) = true)) (fun _ iv _ => T.size - (intOf iv).toNat)
          case atStart => exact ⟨0, 0, rfl, rfl, Nat.zero_le _, Nat.le_refl _, rfl, HW.out⟩
          case round =>
            obtain ⟨k, c, rfl, rfl, hk, hc, rfl, HK⟩ := hrel
            by_cases hlt2 : k < T.size
            · obtain ⟨x, hx⟩ : ∃ x : UInt8, T[k]'hlt2 = x := ⟨_, rfl⟩
              have hdr := drop_cons T.data.toList k x (by have := Lib.data_getElem? T k hlt2; rw [hx] at this; exact this)
              have hki : (k : Int) < (T.size : Int) := by omega
              by_cases he : x = 10
              · have ht := byte_eq x 10 10 rfl he
                have hok := HK.out
                rw [hdr, he, Tt.okW, if_pos rfl, Bool.and_eq_true, decide_eq_true_iff] at hok
                have hc77 : c + 1 ≤ 77 := hok.1
                have HN2 := Lib.hid hok.2
                have hcn : ¬ ((77 : Int) < (c : Int) + 1) := by omega
                clear hok hdr he
                go_wp2_with fail
                go_roundw
                case rel => exact ⟨k + 1, 0, by go_num, by go_num, by omega, by omega, by first | rfl | trivial, HN2.out⟩
                case measure => simp [intOf]; omega
              · have ht := byte_ne x 10 10 rfl he
                have hok := HK.out
                rw [hdr, Tt.okW, if_neg he] at hok
                have HN2 := Lib.hid hok
                clear hok hdr he
                go_wp2_with fail
                go_roundw
                case rel => exact ⟨k + 1, c + 1, by go_num, by go_num, by omega, by omega, by first | rfl | trivial, HN2.out⟩
                case measure => simp [intOf]; omega
            · go_wp2_with fail
              refine (same_any _ _ _ _ _ _ out xs rfl rfl (by omega) (by omega) wr H11.out H10.out).mono ?_
              rintro e w10 ⟨rfl, q, hw⟩
              have L10 : Below w.heap.size w (wr.drewN q) := L9.trans ⟨rfl, rfl, rfl, Nat.le_refl _, fun k hk => rfl⟩
              have hm10 : (wr.drewN q).cell? ⟨0, 0, none⟩ = some (.int .i64 m) := H9.out
              have h10 : 0 < (wr.drewN q).heap.size := Nat.lt_of_lt_of_le h0 L10.size
              rw [hw, show decide (out = xs) = true from decide_eq_true HXS.out.symm]
              clear hw w10
              go_wp2_with fail
              refine (awake_any _ m hm10 h10).mono ?_
              rintro e w11 ⟨rfl, hb11⟩
              go_wp2_with fail
              go_ret
              exact ⟨rfl, L10.trans (hb11.mono L10.size)⟩
  · have hd1 : decide ((len : Int) ≤ 400) = false := decide_eq_false hlen
    go_enter Tryz.func7, Tryz.ntmps7
    go_wp2_with fail
    refine (light_any _ _ _ _).mono ?_
    rintro e w1 ⟨rfl, hw⟩
    rw [hw, hd1]
    clear hw w1
    go_wp2_with fail
    refine (awake_any w m hm h0).mono ?_
    rintro e w1 ⟨rfl, hb1⟩
    go_wp2_with fail
    go_ret
    exact ⟨rfl, hb1⟩
end Go.Proofs.YtageielcdebjlaaGreatDoor
