/- timetablelaw40.short over one event: its contract: an answer. timetableref17.SameInts: its contract. The law's awake: its contract. FeedTexts: the walk. What a row's condition says of the laid tables: the lengths of months and the powers of ten. -/
import Derived.Test.YtcomifbfldoeiaaGreatDoorPk10
import Derived.StillTailTactics
import Derived.Test.YtcomifbfldoeiaaGreatDoorPk22
import Derived.Test.YtcomifbfldoeiaaGreatDoorDaysAll
import Derived.Test.YtcomifbfldoeiaaGreatDoorPk8
import Derived.Test.YtcomifbfldoeiaaGreatDoorParseAll
import Derived.Test.YtcomifbfldoeiaaGreatDoorPk13
import Derived.Lib.LaidTab
import Derived.MakeChecks
-- Short
namespace Go.Proofs.YtcomifbfldoeiaaGreatDoor
open Go.RowKit

end Go.Proofs.YtcomifbfldoeiaaGreatDoor

-- Law10a
namespace Go.Proofs.YtcomifbfldoeiaaGreatDoor
open Go.RowKit

end Go.Proofs.YtcomifbfldoeiaaGreatDoor

-- Awake
namespace Go.Proofs.YtcomifbfldoeiaaGreatDoor
open Go.RowKit

/-- The name 'a', the zone 'z', the text of that feed. -/
def nA : ByteArray := ⟨#[97]⟩
def nZ : ByteArray := ⟨#[122]⟩
def awakeText : List UInt8 := [66, 69, 71, 73, 78, 58, 86, 67, 65, 76, 69, 78, 68, 65, 82, 13, 10, 86, 69, 82, 83, 73, 79, 78, 58, 50, 46, 48, 13, 10, 80, 82, 79, 68, 73, 68, 58, 45, 47, 47, 116, 105, 109, 101, 116, 97, 98, 108, 101, 47, 47, 69, 78, 13, 10, 78, 65, 77, 69, 58, 97, 13, 10, 82, 69, 86, 73, 83, 73, 79, 78, 58, 48, 13, 10, 69, 78, 68, 58, 86, 67, 65, 76, 69, 78, 68, 65, 82, 13, 10]

theorem dig0 : Lib.decDigits 0 = [48] := by unfold Lib.decDigits; simp
theorem atoi0 : Lib.atoi (Lib.decDigits 0) = some ((0 : Nat) : Int) := by rw [dig0]; decide
theorem codeA : Tt.code nA.data.toList = true := by decide
theorem codeZ : Tt.code nZ.data.toList = true := by decide
theorem folds0 : (lines0 nA 0).flatMap (fun l => Tt.fold l.data.toList) = awakeText := by
  unfold lines0; rw [dig0]; decide
theorem unf0 : Tt.unf awakeText = some ((lines0 nA 0).map (·.data.toList)) := by
  unfold lines0; rw [dig0]; decide
theorem sizes0 : ∀ x ∈ lines0 nA 0, x.size ≤ 100000 := by
  unfold lines0; rw [dig0]; intro x hx
  simp only [List.mem_cons, List.not_mem_nil, or_false] at hx
  rcases hx with rfl | rfl | rfl | rfl | rfl | rfl
  all_goals decide
theorem esc0 : Tt.esc [97, 44, 98] = [97, 92, 44, 98] := by decide

theorem format_awake (w : World) : Calls Tryz.prog 33 #[.agg #[.string nA, .int .i64 0, .slice none 0 0], .string nZ] w fun e w' => e = .returned (.tuple #[.string (str awakeText), .int .i64 0]) ∧ Below w.heap.size w w' := by
  have := format_none nA nZ 0 codeA codeZ (by decide) (by decide) (by rw [dig0]; decide) sizes0 (by rw [folds0]; decide) w
  rw [folds0] at this
  exact this
theorem parse_awake (w : World) (m : Int) (hm : w.cell? ⟨0, 0, none⟩ = some (.int .i64 m)) (h0 : 0 < w.heap.size) : Calls Tryz.prog 53 #[.string (str awakeText), .string nZ] w fun e w' => e = .returned (.tuple #[.agg #[.string nA, .int .i64 0, .slice none 0 0], .int .i64 0]) ∧ Below w.heap.size w w' :=
  parse_none (str awakeText) nA nZ 0 (by decide) codeA codeZ (by decide) (by decide) (by rw [dig0]; decide) atoi0 unf0 w m hm h0
theorem escape_awake (w : World) : Calls Tryz.prog 75 #[.string ⟨#[97, 44, 98]⟩] w fun e w' => e = .returned (.string ⟨#[97, 92, 44, 98]⟩) ∧ Below w.heap.size w w' := by
  have := escape_any ⟨#[97, 44, 98]⟩ w (by decide)
  refine this.mono ?_
  rintro e w' ⟨h1, h2⟩; refine ⟨?_, h2⟩
  rw [h1]
  exact ret_str esc0
theorem awakeText_list : ((str awakeText).toList == awakeText) = true := by rw [Lib.toList_data]; exact beq_self_eq_true _
theorem nA_list : (nA.toList == [97]) = true := by rw [Lib.toList_data]; decide

set_option maxHeartbeats 4000000 in
set_option maxRecDepth 100000 in
theorem awake_any (w : World) (m : Int) (hm : w.cell? ⟨0, 0, none⟩ = some (.int .i64 m)) (h0 : 0 < w.heap.size) :
    Calls Tryz.prog 35 #[] w fun e w' => e = .returned (.bool true) ∧ Below w.heap.size w w' := by
  go_enter Tryz.func35, Tryz.ntmps35
  go_wp2_with fail
  refine (format_awake w).mono ?_
  rintro e w1 ⟨rfl, hb1⟩; have hm1 := (hb1.cell (p := ⟨0, 0, none⟩) h0).trans hm
  have h01 : 0 < w1.heap.size := Nat.lt_of_lt_of_le h0 hb1.size
  have s1 := hb1.size; clear hm; go_wp2_with fail
  refine (parse_awake w1 m hm1 h01).mono ?_
  rintro e w2 ⟨rfl, hb2⟩; have s2 := hb2.size; have hA := nA_list; go_wp2_with fail
  refine (escape_awake _).mono ?_
  rintro e w3 ⟨rfl, hb3⟩; go_wp2_with fail
  go_ret; refine ⟨?_, ?_⟩
  · show Ending.returned (.bool ((str awakeText).toList == awakeText)) = _
    rw [awakeText_list]
  · exact (((hb1.trans (hb2.mono s1)).alloc (by omega) _).trans (hb3.mono (by simp; omega)))
end Go.Proofs.YtcomifbfldoeiaaGreatDoor

-- Law7
namespace Go.Proofs.YtcomifbfldoeiaaGreatDoor
open Go.RowKit

/-- The whole numbers of a slice. -/
def Nums (w : World) (ao : Option Addr) (len : Nat) : Prop := ∀ i, i < len → ∃ a n, ao = some a ∧ a.block < w.heap.size ∧ w.cell? (a.add i) = some (.int .i64 n) ∧ -9223372036854775808 ≤ n ∧ n ≤ 9223372036854775807

set_option maxRecDepth 100000 in
theorem light_any (ao : Option Addr) (len cap : Nat) (w : World) :
    Calls Tryz.prog 10 #[.slice ao len cap] w fun e w' => e = .returned (.bool (decide ((len : Int) ≤ 400))) ∧ w' = w := by
  go_enter Tryz.func10, Tryz.ntmps10
  go_wp2_with fail
  go_ret; exact ⟨rfl, rfl⟩

set_option maxRecDepth 100000 in
theorem roll_any (ao : Option Addr) (len cap : Nat) (w : World) (hl : len ≤ 400) (hn : Nums w ao len) :
    Calls Tryz.prog 12 #[.slice ao len cap] w fun e w' => e = .returned (.pointer (some ⟨w.heap.size, 0, none⟩)) ∧ Dice w.heap.size w' ∧ Below w.heap.size w w' ∧ w.heap.size + 1 ≤ w'.heap.size := by
  go_enter Tryz.func12, Tryz.ntmps12
  go_wp2_with fail
  go_ret; have hb : Below w.heap.size w (w.alloc (.cells #[.slice ao len cap, .int .i64 0] 121)) := (Below.refl _ w).alloc (Nat.le_refl _) _
  refine ⟨rfl, ⟨ao, len, cap, 0, ⟨heap_alloc_new w _, Nat.zero_le _, hl, fun i hi => ?_⟩⟩, hb, by simp⟩
  obtain ⟨a, n, ha, hlt, hc, hn⟩ := hn i hi
  exact ⟨a, n, ha, hlt, (hb.cell (p := a.add i) (by rw [addr_add_block]; omega)).trans hc, hn⟩

end Go.Proofs.YtcomifbfldoeiaaGreatDoor
namespace Go.Proofs.YtcomifbfldoeiaaGreatDoor
open Go.RowKit

theorem vars_at {P : Program} {w : World} : ∀ {l : List (String × DataW Unit)} {ps : List MemPlace}, DataW.LaidVars P w l ps → ∀ {i : Nat} {x : String × DataW Unit}, l[i]? = some x →
    ∃ g t cs fuel p, P.globalNamed x.1 = some g ∧ (P.globals[g]?).map (·.type) = some t ∧ w.var? P x.1 = some cs ∧ DataW.trod (fun _ => ()) P w 0 (fun _ => true) false fuel t cs.toList = some (x.2, p)
  | [], _, _, i, x, hx => by simp at hx
  | (n, d) :: r, ps, h, i, x, hx => by
    obtain ⟨g, t, cs, fuel, p, q, h1, h2, h3, h4, hr, _⟩ := h; cases i with
    | zero =>
      simp only [List.getElem?_cons_zero, Option.some.injEq] at hx
      subst hx; exact ⟨g, t, cs, fuel, p, h1, h2, h3, h4⟩
    | succ i => exact vars_at hr (by simpa using hx)
theorem laid_tab {W : World} {l : List (String × DataW Unit)} (h : laidMet Tryz.prog l W) {i g n : Nat} {t e : TypeId} {k : IntKind} {zs : List Int} {x : String × DataW Unit} (hx : l[i]? = some x) (hd : x.2 = Lib.tabData k zs) (hg : Tryz.prog.globalNamed x.1 = some g) (hty : (Tryz.prog.globals[g]?).map (·.type) = some t)
    (ht : Tryz.prog.underlying t = some (.array n e)) (he : Tryz.prog.underlying e = some (.int k)) (hce : Tryz.prog.cellsOf e = 1) (hct : Tryz.prog.cellsOf t = n) : ∃ u fr, W.heap[g]? = some (.cells (zs.map fun z => Value.int k z).toArray u fr) := by
  obtain ⟨ps, hl, _⟩ := h; obtain ⟨g', t', cs, fuel, p, h1, h2, h3, h4⟩ := vars_at hl hx
  obtain rfl := Option.some.inj (hg.symm.trans h1)
  obtain rfl := Option.some.inj (hty.symm.trans h2)
  rw [hd] at h4
  have hc := Lib.cells_of_tab ht he hce hct h4; unfold World.var? at h3
  rw [h1] at h3
  simp only [Option.bind_some] at h3
  split at h3
  · rename_i cs' u fr heq
    simp only [Option.some.injEq] at h3
    subst h3; exact ⟨u, fr, by rw [heq, ← hc]⟩
  · cases h3
theorem lens_laid {W : World} {l : List (String × DataW Unit)} (h : laidMet Tryz.prog l W) {i : Nat} {x : String × DataW Unit} (hx : l[i]? = some x) (hd : x.2 = Lib.tabData .i64 [31, 28, 31, 30, 31, 30, 31, 31, 30, 31, 30, 31]) (hg : Tryz.prog.globalNamed x.1 = some 6) : Lens W := by
  obtain ⟨u, fr, hh⟩ := laid_tab (g := 6) (t := 338) (e := 3) (n := 12) h hx hd hg (by kernel_rfl) (by kernel_rfl) (by kernel_rfl) (by kernel_rfl) (by kernel_rfl)
  intro j hj; have : W.cell? ⟨6, j, none⟩ = (([31, 28, 31, 30, 31, 30, 31, 31, 30, 31, 30, 31] : List Int).map fun z => Value.int .i64 z).toArray[j]? := by simp [World.cell?, hh]
  rw [this]
  exact (show ∀ j : Nat, j < 12 → (([31, 28, 31, 30, 31, 30, 31, 31, 30, 31, 30, 31] : List Int).map fun z => Value.int .i64 z).toArray[j]? = some (.int .i64 (([31, 28, 31, 30, 31, 30, 31, 31, 30, 31, 30, 31] : List Int).getD j 0)) from fun j hj => by
    rcases (show j = 0 ∨ j = 1 ∨ j = 2 ∨ j = 3 ∨ j = 4 ∨ j = 5 ∨ j = 6 ∨ j = 7 ∨ j = 8 ∨ j = 9 ∨ j = 10 ∨ j = 11 by omega) with rfl | rfl | rfl | rfl | rfl | rfl | rfl | rfl | rfl | rfl | rfl | rfl <;> rfl) j hj
theorem pow_laid {W : World} {l : List (String × DataW Unit)} (h : laidMet Tryz.prog l W) {i : Nat} {x : String × DataW Unit} (hx : l[i]? = some x) (hd : x.2 = Lib.tabData .u64 Lib.pow10Tab) (hg : Tryz.prog.globalNamed x.1 = some 3) : Pow W ∧ 3 < W.heap.size := by
  obtain ⟨u, fr, hh⟩ := laid_tab (g := 3) (t := 323) (e := 266) (n := 20) h hx hd hg (by kernel_rfl) (by kernel_rfl) (by kernel_rfl) (by kernel_rfl) (by kernel_rfl)
  exact ⟨⟨u, fr, hh⟩, (Array.getElem?_eq_some_iff.1 hh).1⟩
end Go.Proofs.YtcomifbfldoeiaaGreatDoor
