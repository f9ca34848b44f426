/- timetablelaw40.short over one event: its contract: an answer. timetableref17.SameInts: its contract. The law's awake: its contract. FeedTexts: the walk. Notices in a row of one's own; events that lie still or in a row of one's own; what a reference to an event finds. No function of the program in sight. Condition: none. The law's awake: its contract: true. timetablelaw40.some: its contract: a feed in new memory, sometimes an odd one. -/
import Derived.Test.YtageielcdebjlaaGreatDoorPk25
import Derived.Test.YtageielcdebjlaaGreatDoorParseAll
import Derived.Test.YtageielcdebjlaaGreatDoorPk14
import Derived.Test.YtageielcdebjlaaGreatDoorPk16
import Derived.Test.YtageielcdebjlaaGreatDoorPk13
import Derived.Test.YtageielcdebjlaaGreatDoorPk24
import Derived.Deep.CutBlock
-- Short
namespace Go.Proofs.YtageielcdebjlaaGreatDoor
open Go.RowKit

end Go.Proofs.YtageielcdebjlaaGreatDoor

-- Law10a
namespace Go.Proofs.YtageielcdebjlaaGreatDoor
open Go.RowKit

theorem RowI.few {lo : Nat} {w : World} {v : Value} {xs : List Int} (h : RowI lo w v xs) : xs.length ≤ 9223372036854775807 := by
  rcases h.2 with ⟨_, h0⟩ | ⟨g, cap, cur, _, _, _, r4, r5, _⟩
  · omega
  · unfold maxLen at r5; omega
set_option maxHeartbeats 4000000 in
set_option maxRecDepth 100000 in
theorem sameints57 (xs ys : List Int) (ao bo : Option Addr) (c d : Nat) (w : World) (B : Nat) (hX : Ints B w ao xs) (hY : Ints B w bo ys) (hn : xs.length ≤ 9223372036854775807) :
    Calls Tryz.prog 57 #[.slice ao xs.length c, .slice bo ys.length d] w fun e w' => e = .returned (.bool (decide (xs = ys))) ∧ ∃ n, w' = w.drewN n := by
  by_cases hl : xs.length = ys.length
  · have HX := Lib.hid hX; have HY := Lib.hid hY
    clear hX hY; obtain ⟨n, hn1⟩ : ∃ n, n = xs.length := ⟨_, rfl⟩
    rw [← hl]; rw [← hn1] at hn ⊢
    have hn2 : n ≤ 9223372036854775807 := hn
    clear hn; have HN := Lib.hid hn1; have HL := Lib.hid hl; clear hn1 hl; go_enter Tryz.func57, Tryz.ntmps57
    go_wp2_with fail
    go_loopw [5] (fun iv wr => ∃ k : Nat, k ≤ n ∧ iv = .int .i64 k ∧ (∃ q, wr = w.drewN q) ∧ Hid (∀ j, j < k → xs[j]? = ys[j]?)) (fun iv _ => n - (intOf iv).toNat)
    case atStart => exact ⟨0, Nat.zero_le _, rfl, ⟨0, rfl⟩, Lib.hid (fun j h => absurd h (Nat.not_lt_zero _))⟩
    case round =>
      obtain ⟨k, hk, rfl, ⟨q, hq⟩, HE⟩ := hrel
      subst hq; by_cases hlt : k < n
      · have hx : k < xs.length := by rw [← HN.out]; exact hlt
        have hy : k < ys.length := by rw [← HL.out]; exact hx
        obtain ⟨a, rfl, -, hca⟩ := HX.out k _ (List.getElem?_eq_getElem hx)
        obtain ⟨a', rfl, -, hcb⟩ := HY.out k _ (List.getElem?_eq_getElem hy)
        obtain ⟨x, hxe⟩ : ∃ x, x = xs[k] := ⟨_, rfl⟩
        obtain ⟨y, hye⟩ : ∃ y, y = ys[k] := ⟨_, rfl⟩
        rw [← hxe] at hca
        rw [← hye] at hcb
        have HXE := Lib.hid hxe; have HYE := Lib.hid hye; clear hxe hye; have hlt2 : (k : Int) < n := by omega
        by_cases he : x = y
        · have hb : (x != y) = false := by simp [he]
          have HS := Lib.hid (show ∀ j, j < k + 1 → xs[j]? = ys[j]? from by
            intro j hj; rcases Nat.lt_or_ge j k with h | h
            · exact HE.out j h
            · obtain rfl : j = k := by omega
              rw [List.getElem?_eq_getElem hx, List.getElem?_eq_getElem hy, ← HXE.out, ← HYE.out, he])
          clear he; go_wp2_with fail
          go_quiet (fail)
          go_wp2_with fail
          go_roundw
          case rel => exact ⟨k + 1, by omega, by go_num, ⟨_, rfl⟩, HS⟩
          case measure => simp [intOf]; omega
        · have hb : (x != y) = true := by simp [he]
          have HD := Lib.hid (show decide (xs = ys) = false from by
            rw [decide_eq_false_iff_not]
            intro e; exact he (by rw [HXE.out, HYE.out]; simp [e]))
          clear he; go_wp2_with fail
          go_quiet (fail)
          go_wp2_with fail
          go_ret; exact ⟨ret_bool HD.out.symm, q + nq, by unfold World.drewN; simp [Nat.add_assoc]⟩
      · have HD := Lib.hid (show decide (xs = ys) = true from by
          rw [decide_eq_true_iff]
          apply List.ext_getElem? 
          intro j; rcases Nat.lt_or_ge j k with h | h
          · exact HE.out j h
          · have h1 : xs.length ≤ j := by rw [← HN.out]; omega
            have h2 : ys.length ≤ j := by rw [← HL.out]; exact h1
            rw [List.getElem?_eq_none h1, List.getElem?_eq_none h2])
        have hlt2 : ¬ (k : Int) < n := by omega
        go_wp2_with fail
        go_ret; exact ⟨ret_bool HD.out.symm, _, rfl⟩
  · have hd : decide (xs = ys) = false := by
      rw [decide_eq_false_iff_not]; intro e; exact hl (by rw [e])
    have HD := Lib.hid hd; have hb : (((xs.length : Int) != ys.length) = true) := by
      rw [bne_iff_ne]; intro e; exact hl (by omega)
    clear hl hd; go_enter Tryz.func57, Tryz.ntmps57
    go_wp2_with fail
    go_ret; exact ⟨ret_bool HD.out.symm, 0, rfl⟩
end Go.Proofs.YtageielcdebjlaaGreatDoor

-- Awake
namespace Go.Proofs.YtageielcdebjlaaGreatDoor
open Go.RowKit

/-- The name 'a', the zone 'z', the text of that feed. -/
def nA : ByteArray := ⟨#[97]⟩
def nZ : ByteArray := ⟨#[122]⟩
def awakeText : List UInt8 := [66, 69, 71, 73, 78, 58, 86, 67, 65, 76, 69, 78, 68, 65, 82, 13, 10, 86, 69, 82, 83, 73, 79, 78, 58, 50, 46, 48, 13, 10, 80, 82, 79, 68, 73, 68, 58, 45, 47, 47, 116, 105, 109, 101, 116, 97, 98, 108, 101, 47, 47, 69, 78, 13, 10, 78, 65, 77, 69, 58, 97, 13, 10, 82, 69, 86, 73, 83, 73, 79, 78, 58, 48, 13, 10, 69, 78, 68, 58, 86, 67, 65, 76, 69, 78, 68, 65, 82, 13, 10]

theorem dig0 : Lib.decDigits 0 = [48] := by unfold Lib.decDigits; simp
theorem atoi0 : Lib.atoi (Lib.decDigits 0) = some ((0 : Nat) : Int) := by rw [dig0]; decide
theorem codeA : Tt.code nA.data.toList = true := by decide
theorem codeZ : Tt.code nZ.data.toList = true := by decide
theorem folds0 : (lines0 nA 0).flatMap (fun l => Tt.fold l.data.toList) = awakeText := by
  unfold lines0; rw [dig0]; decide
theorem unf0 : Tt.unf awakeText = some ((lines0 nA 0).map (·.data.toList)) := by
  unfold lines0; rw [dig0]; decide
theorem sizes0 : ∀ x ∈ lines0 nA 0, x.size ≤ 100000 := by
  unfold lines0; rw [dig0]; intro x hx
  simp only [List.mem_cons, List.not_mem_nil, or_false] at hx
  rcases hx with rfl | rfl | rfl | rfl | rfl | rfl
  all_goals decide
theorem esc0 : Tt.esc [97, 44, 98] = [97, 92, 44, 98] := by decide

theorem format_awake (w : World) : Calls Tryz.prog 48 #[.agg #[.string nA, .int .i64 0, .slice none 0 0], .string nZ] w fun e w' => e = .returned (.tuple #[.string (str awakeText), .int .i64 0]) ∧ Below w.heap.size w w' := by
  have := format_none nA nZ 0 codeA codeZ (by decide) (by decide) (by rw [dig0]; decide) sizes0 (by rw [folds0]; decide) w
  rw [folds0] at this
  exact this
theorem parse_awake (w : World) (m : Int) (hm : w.cell? ⟨0, 0, none⟩ = some (.int .i64 m)) (h0 : 0 < w.heap.size) : Calls Tryz.prog 50 #[.string (str awakeText), .string nZ] w fun e w' => e = .returned (.tuple #[.agg #[.string nA, .int .i64 0, .slice none 0 0], .int .i64 0]) ∧ Below w.heap.size w w' :=
  parse_none (str awakeText) nA nZ 0 (by decide) codeA codeZ (by decide) (by decide) (by rw [dig0]; decide) atoi0 unf0 w m hm h0
theorem escape_awake (w : World) : Calls Tryz.prog 39 #[.string ⟨#[97, 44, 98]⟩] w fun e w' => e = .returned (.string ⟨#[97, 92, 44, 98]⟩) ∧ Below w.heap.size w w' := by
  have := escape_any ⟨#[97, 44, 98]⟩ w (by decide)
  refine this.mono ?_
  rintro e w' ⟨h1, h2⟩; refine ⟨?_, h2⟩
  rw [h1]
  exact ret_str esc0
theorem awakeText_list : ((str awakeText).toList == awakeText) = true := by rw [Lib.toList_data]; exact beq_self_eq_true _
theorem nA_list : (nA.toList == [97]) = true := by rw [Lib.toList_data]; decide

set_option maxHeartbeats 4000000 in
set_option maxRecDepth 100000 in
theorem awake_any (w : World) (m : Int) (hm : w.cell? ⟨0, 0, none⟩ = some (.int .i64 m)) (h0 : 0 < w.heap.size) :
    Calls Tryz.prog 33 #[] w fun e w' => e = .returned (.bool true) ∧ Below w.heap.size w w' := by
  go_enter Tryz.func33, Tryz.ntmps33
  go_wp2_with fail
  refine (format_awake w).mono ?_
  rintro e w1 ⟨rfl, hb1⟩; have hm1 := (hb1.cell (p := ⟨0, 0, none⟩) h0).trans hm
  have h01 : 0 < w1.heap.size := Nat.lt_of_lt_of_le h0 hb1.size
  have s1 := hb1.size; clear hm; go_wp2_with fail
  refine (parse_awake w1 m hm1 h01).mono ?_
  rintro e w2 ⟨rfl, hb2⟩; have s2 := hb2.size; have hA := nA_list; go_wp2_with fail
  refine (escape_awake _).mono ?_
  rintro e w3 ⟨rfl, hb3⟩; go_wp2_with fail
  go_ret; refine ⟨?_, ?_⟩
  · show Ending.returned (.bool ((str awakeText).toList == awakeText)) = _
    rw [awakeText_list]
  · exact (((hb1.trans (hb2.mono s1)).alloc (by omega) _).trans (hb3.mono (by simp; omega)))
end Go.Proofs.YtageielcdebjlaaGreatDoor

-- Law7
namespace Go.Proofs.YtageielcdebjlaaGreatDoor
open Go.RowKit

/-- The whole numbers of a slice. -/
def Nums (w : World) (ao : Option Addr) (len : Nat) : Prop := ∀ i, i < len → ∃ a n, ao = some a ∧ a.block < w.heap.size ∧ w.cell? (a.add i) = some (.int .i64 n) ∧ -9223372036854775808 ≤ n ∧ n ≤ 9223372036854775807

theorem Nums.below {w w' : World} {ao : Option Addr} {len : Nat} (h : Nums w ao len) (hw : Below w.heap.size w w') : Nums w' ao len := fun i hi => by
  obtain ⟨a, n, ha, hlt, hc, hn⟩ := h i hi
  exact ⟨a, n, ha, Nat.lt_of_lt_of_le hlt hw.size, (hw.cell (p := a.add i) (by rw [addr_add_block]; omega)).trans hc, hn⟩

set_option maxRecDepth 100000 in
theorem light_any (ao : Option Addr) (len cap : Nat) (w : World) :
    Calls Tryz.prog 15 #[.slice ao len cap] w fun e w' => e = .returned (.bool (decide ((len : Int) ≤ 400))) ∧ w' = w := by
  go_enter Tryz.func15, Tryz.ntmps15
  go_wp2_with fail
  go_ret; exact ⟨rfl, rfl⟩

set_option maxRecDepth 100000 in
theorem roll_any (ao : Option Addr) (len cap : Nat) (w : World) (hl : len ≤ 400) (hn : Nums w ao len) :
    Calls Tryz.prog 18 #[.slice ao len cap] w fun e w' => e = .returned (.pointer (some ⟨w.heap.size, 0, none⟩)) ∧ Dice w.heap.size w' ∧ Below w.heap.size w w' ∧ w.heap.size + 1 ≤ w'.heap.size := by
  go_enter Tryz.func18, Tryz.ntmps18
  go_wp2_with fail
  go_ret; have hb : Below w.heap.size w (w.alloc (.cells #[.slice ao len cap, .int .i64 0] 124)) := (Below.refl _ w).alloc (Nat.le_refl _) _
  refine ⟨rfl, ⟨ao, len, cap, 0, ⟨heap_alloc_new w _, Nat.zero_le _, hl, fun i hi => ?_⟩⟩, hb, by simp⟩
  obtain ⟨a, n, ha, hlt, hc, hn⟩ := hn i hi
  exact ⟨a, n, ha, hlt, (hb.cell (p := a.add i) (by rw [addr_add_block]; omega)).trans hc, hn⟩

end Go.Proofs.YtageielcdebjlaaGreatDoor
namespace Go.Proofs.YtageielcdebjlaaGreatDoor
open Go.RowKit

/-- The cells of some notices. -/
def nCells (ns : List Nt) : List Value := ns.flatMap fun n => [.int .i64 n.kind, .string n.uid, .int .i64 n.seq]
theorem nCells_snoc (ns : List Nt) (n : Nt) : nCells (ns ++ [n]) = nCells ns ++ [.int .i64 n.kind, .string n.uid, .int .i64 n.seq] := by
  unfold nCells; simp
/-- Notices in a row of one's own. -/
def RowN (lo : Nat) (w : World) (v : Value) (ns : List Nt) : Prop := w.ownsRow lo 99 3 v ns.length (nCells ns)
theorem RowN.nil (lo : Nat) (w : World) : RowN lo w (.slice none 0 0) [] := World.ownsRow_nil _ _ _ _
theorem RowN.snoc {lo : Nat} {w : World} {v : Value} {ns : List Nt} {n : Nt} (h : w.ownsRow lo 99 3 v (ns.length + 1) (nCells ns ++ [.int .i64 n.kind, .string n.uid, .int .i64 n.seq])) : RowN lo w v (ns ++ [n]) := by
  unfold RowN
  rw [nCells_snoc, List.length_append]
  exact h
/-- Events that lie still below N, or in a row of one's own from N on; what they refer to lies below N. -/
structure Lies (N : Nat) (w0 w : World) (ao : Option Addr) (c : Nat) (ts : List (Ev × Value × Value)) : Prop where
  nil : ao = none → c = 0
  cap : ts.length ≤ c
  ref : ∀ t ∈ ts, RefS N w0 t
  at' : Seg N w0 ao ts ∨ w.ownsRow N 82 13 (.slice ao ts.length c) ts.length (tCells ts)
theorem Lies.row {N : Nat} {w0 w w' : World} {ao : Option Addr} {c : Nat} {ts : List (Ev × Value × Value)} (h : Lies N w0 w ao c ts) (f : w.ownsRow N 82 13 (.slice ao ts.length c) ts.length (tCells ts) → w'.ownsRow N 82 13 (.slice ao ts.length c) ts.length (tCells ts)) : Lies N w0 w' ao c ts :=
  ⟨h.nil, h.cap, h.ref, h.at'.imp id f⟩
theorem Lies.made {N : Nat} {w0 w w' : World} {ao : Option Addr} {c : Nat} {ts : List (Ev × Value × Value)} (h : Lies N w0 w ao c ts) (hb : Below w.heap.size w w') : Lies N w0 w' ao c ts := h.row (fun k => row_made k hb)
theorem Lies.set {N : Nat} {w0 w : World} {ao : Option Addr} {c : Nat} {ts : List (Ev × Value × Value)} (h : Lies N w0 w ao c ts) {g : Nat} {cs : Array Value} {ty : TypeId} (hg : Blk g cs ty w) (hte : ty ≠ 82) (i : Nat) (u : Value) : Lies N w0 (w.setCell ⟨g, i, none⟩ u) ao c ts := h.row (fun k => row_set k hg hte i u)
theorem Lies.own {N : Nat} {w0 w : World} {u : Value} {ts : List (Ev × Value × Value)} (h : w.ownsRow N 82 13 u ts.length (tCells ts)) (hr : ∀ t ∈ ts, RefS N w0 t) : ∃ ao c, u = .slice ao ts.length c ∧ Lies N w0 w ao c ts := by
  rcases h.2 with ⟨hv, h0⟩ | ⟨g, cap, cur, hv, r2, r3, r4, r5, r6⟩
  · exact ⟨none, 0, by rw [hv, h0], fun _ => rfl, by omega, hr, .inr (by rw [h0] at h ⊢; rw [hv] at h; exact h)⟩
  · exact ⟨_, cap, hv, fun e => (by cases e), r4, hr, .inr (by rw [← hv]; exact h)⟩
end Go.Proofs.YtageielcdebjlaaGreatDoor
namespace Go.Proofs.YtageielcdebjlaaGreatDoor
open Go.RowKit

/-- The event of the sanity check. -/
def e0 : Ev := ⟨⟨#[99, 64, 49]⟩, 1, false, ⟨2, 2, 1, 1, [], []⟩, 0, 45, ⟨#[99]⟩, ⟨#[]⟩⟩
end Go.Proofs.YtageielcdebjlaaGreatDoor
namespace Go.Proofs.YtageielcdebjlaaGreatDoor
open Go.RowKit

theorem RowE.mono {lo lo' : Nat} {w : World} {v : Value} {ts : List (Ev × Value × Value)} (h : RowE lo w v ts) (hb : lo' ≤ lo) : RowE lo' w v ts := ⟨ownsRow_mono h.row hb, fun t ht => (h.ref t ht).mono hb⟩

end Go.Proofs.YtageielcdebjlaaGreatDoor
