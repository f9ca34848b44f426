/- FeedEvents returns true for every session, every whole number and every list of whole numbers, and all three read afterwards as before. Conditions: the listed package variables hold what the pruned copy of the program lays (tied). -/
import Derived.Test.YtageielcdebjlaaGreatDoorFeedEventsRow
import Derived.Test.YtageielcdebjlaaGreatDoorFeedEventsFacts
namespace Go.Proofs.YtageielcdebjlaaGreatDoor.FeedEvents
open Go Go.Proofs.YtageielcdebjlaaGreatDoor
theorem said : Rows.FeedEventsSaid :=
  OpenClaim.holds_of_cond 12 Tryz.f12 rfl rfl rfl rfl rfl rfl rfl ⟨rfl, rfl, rfl, rfl, rfl⟩ rfl rfl rfl rfl rfl named Tryz.func12 closed inst wrap
    (fun os started H enc _ F => by rw [OpenClaim.pre_eq_preRow]; exact lifted os started H enc F)
/-- No parameter wants a stand-in. -/
theorem plain (f : FuncId) (fn : Func) (hf : Tryz.pinned.checked.prog.funcNamed "timetable/timetablelaw40.FeedEvents" = some f) (hfn : Tryz.pinned.checked.prog.funcs[f]? = some fn) :
    true = Tryz.pinned.checked.prog.looks [] ∧ ∀ (j : Nat) t, fn.params[j]? = some t → Tryz.pinned.checked.prog.wantsStandIn t = false := by
  obtain rfl : f = 12 := Option.some.inj ((show Tryz.prog.funcNamed "timetable/timetablelaw40.FeedEvents" = some 12 by kernel_rfl).symm.trans hf) |>.symm
  obtain rfl : fn = Tryz.f12 := (Option.some.inj (Tryz.func12.symm.trans hfn)).symm
  refine ⟨by kernel_rfl, fun j t ht => ?_⟩
  rw [Tryz.params12] at ht
  have hm : t ∈ [107, 3, 27] := by simpa using Array.mem_of_getElem? ht
  have hall : ([107, 3, 27].all fun u => !Tryz.prog.wantsStandIn u) = true := by kernel_rfl
  exact (show Tryz.prog.wantsStandIn t = false by simpa using List.all_eq_true.1 hall t hm)

theorem wfText : Rows.feedEventsRow.wfByText (OpenSpec.ofChange Rows.feedEventsSpec) = true := by kernel_rfl
theorem main : Tryz.pinned.checked.prog.mainIs = some (Rows.feedEventsCard.stood.harness.1, Rows.feedEventsCard.stood.harness.2.toList) := by kernel_rfl
theorem goes : false = Rows.feedEventsRow.goesBy Tryz.pinned.checked.prog := by kernel_rfl
/-- THE CARD. -/
theorem card : Rows.FeedEventsCardSaid :=
  Claim7.holds_tied_plain_at .later [] [.data, .data, .data, .data, .data, .sentinel, .sentinel, .pinned] true Rows.feedEventsCard.stood.harness true said (fun _ h => by cases h) wfText (fun _ h => by cases h) feedEvents_row_tie rfl ⟨rfl, rfl⟩ main rfl plain goes
end Go.Proofs.YtageielcdebjlaaGreatDoor.FeedEvents
