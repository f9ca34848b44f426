/- FeedReads returns true for every two texts, every list of whole numbers, every whole number and every byte, and all five read afterwards as before. Conditions: the listed package variables hold what the pruned copy of the program lays (tied). -/
import Derived.Test.YtageielcdebjlaaGreatDoorFeedReadsRow
import Derived.Test.YtageielcdebjlaaGreatDoorFeedReadsFacts
namespace Go.Proofs.YtageielcdebjlaaGreatDoor.FeedReads
open Go Go.Proofs.YtageielcdebjlaaGreatDoor
theorem said : Rows.FeedReadsSaid :=
 OpenClaim.holds_of_cond 9 Tryz.f9 rfl rfl rfl rfl rfl rfl rfl ⟨rfl, rfl, rfl, rfl, rfl⟩ rfl rfl rfl rfl rfl named Tryz.func9 closed inst wrap
  (fun os started H enc _ F => by rw [OpenClaim.pre_eq_preRow]; exact lifted os started H enc F)
theorem plain (f : FuncId) (fn : Func) (hf : Tryz.pinned.checked.prog.funcNamed "timetable/timetablelaw40.FeedReads" = some f) (hfn : Tryz.pinned.checked.prog.funcs[f]? = some fn) :
  true = Tryz.pinned.checked.prog.looks [] /\ ∀ (j : Nat) t, fn.params[j]? = some t -> Tryz.pinned.checked.prog.wantsStandIn t = false := by
 obtain rfl : f = 9 := Option.some.inj ((show Tryz.prog.funcNamed "timetable/timetablelaw40.FeedReads" = some 9 by kernel_rfl).symm.trans hf) |>.symm
 obtain rfl : fn = Tryz.f9 := (Option.some.inj (Tryz.func9.symm.trans hfn)).symm; refine ⟨by kernel_rfl, fun j t ht => ?_⟩; rw [Tryz.params9] at ht; have hm : t ∈ [9, 27, 3, 5, 9] := by simpa using Array.mem_of_getElem? ht
 have hall : ([9, 27, 3, 5, 9].all fun u => !Tryz.prog.wantsStandIn u) = true := by kernel_rfl
 exact (show Tryz.prog.wantsStandIn t = false by simpa using List.all_eq_true.1 hall t hm)
theorem wfText : Rows.feedReadsRow.wfByText (OpenSpec.ofChange Rows.feedReadsSpec) = true := by kernel_rfl
theorem main : Tryz.pinned.checked.prog.mainIs = some (Rows.feedReadsCard.stood.harness.1, Rows.feedReadsCard.stood.harness.2.toList) := by kernel_rfl
theorem goes : false = Rows.feedReadsRow.goesBy Tryz.pinned.checked.prog := by kernel_rfl
theorem card : Rows.FeedReadsCardSaid :=
 Claim7.holds_tied_plain_at .later [] [.data, .data, .data, .data, .data, .sentinel, .sentinel, .pinned] true Rows.feedReadsCard.stood.harness true said (fun _ h => by cases h) wfText (fun _ h => by cases h) feedReads_row_tie rfl ⟨rfl, rfl⟩ main rfl plain goes
end Go.Proofs.YtageielcdebjlaaGreatDoor.FeedReads
