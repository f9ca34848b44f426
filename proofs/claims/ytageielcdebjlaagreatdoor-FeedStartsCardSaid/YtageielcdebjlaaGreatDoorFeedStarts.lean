/- FeedStarts returns true for every event and every list of whole numbers, and both read afterwards as before. Conditions: the listed package variables hold what the pruned copy of the program lays (tied), the table unicode utf8 first is pinned by name. -/
import Derived.Test.YtageielcdebjlaaGreatDoorFeedStartsRow
import Derived.Test.YtageielcdebjlaaGreatDoorFeedStartsFacts
namespace Go.Proofs.YtageielcdebjlaaGreatDoor.FeedStarts
open Go Go.Proofs.YtageielcdebjlaaGreatDoor
theorem said : Rows.FeedStartsSaid :=
  OpenClaim.holds_of_cond 10 Tryz.f10 rfl rfl rfl rfl rfl rfl rfl ⟨rfl, rfl, rfl, rfl, rfl⟩ rfl rfl rfl rfl rfl named Tryz.func10 closed inst wrap
    (fun os started H enc _ F => by rw [OpenClaim.pre_eq_preRow]; exact lifted os started H enc F)
/-- No parameter wants a stand-in. -/
theorem plain (f : FuncId) (fn : Func) (hf : Tryz.pinned.checked.prog.funcNamed "timetable/timetablelaw40.FeedStarts" = some f) (hfn : Tryz.pinned.checked.prog.funcs[f]? = some fn) :
    true = Tryz.pinned.checked.prog.looks [] ∧ ∀ (j : Nat) t, fn.params[j]? = some t → Tryz.pinned.checked.prog.wantsStandIn t = false := by
  obtain rfl : f = 10 := Option.some.inj ((show Tryz.prog.funcNamed "timetable/timetablelaw40.FeedStarts" = some 10 by kernel_rfl).symm.trans hf) |>.symm
  obtain rfl : fn = Tryz.f10 := (Option.some.inj (Tryz.func10.symm.trans hfn)).symm
  refine ⟨by kernel_rfl, fun j t ht => ?_⟩
  rw [Tryz.params10] at ht
  have hm : t ∈ [82, 27] := by simpa using Array.mem_of_getElem? ht
  have hall : ([82, 27].all fun u => !Tryz.prog.wantsStandIn u) = true := by kernel_rfl
  exact (show Tryz.prog.wantsStandIn t = false by simpa using List.all_eq_true.1 hall t hm)

theorem wfText : Rows.feedStartsRow.wfByText (OpenSpec.ofChange Rows.feedStartsSpec) = true := by kernel_rfl
theorem main : Tryz.pinned.checked.prog.mainIs = some (Rows.feedStartsCard.stood.harness.1, Rows.feedStartsCard.stood.harness.2.toList) := by kernel_rfl
theorem goes : false = Rows.feedStartsRow.goesBy Tryz.pinned.checked.prog := by kernel_rfl
/-- THE CARD. -/
theorem card : Rows.FeedStartsCardSaid :=
  Claim7.holds_tied_plain_at .later [] [.data, .data, .data, .data, .data, .sentinel, .sentinel, .pinned] true Rows.feedStartsCard.stood.harness true said (fun _ h => by cases h) wfText (fun _ h => by cases h) feedStarts_row_tie rfl ⟨rfl, rfl⟩ main rfl plain goes
end Go.Proofs.YtageielcdebjlaaGreatDoor.FeedStarts
