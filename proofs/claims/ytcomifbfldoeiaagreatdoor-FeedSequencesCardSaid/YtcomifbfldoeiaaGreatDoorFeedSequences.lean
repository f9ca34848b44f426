/- FeedSequences returns true for every list of whole numbers, which reads afterwards as before. Conditions: the listed package variables hold what the pruned copy of the program lays (tied). -/
import Derived.Test.YtcomifbfldoeiaaGreatDoorFeedSequencesRow
import Derived.Test.YtcomifbfldoeiaaGreatDoorFeedSequencesFacts
namespace Go.Proofs.YtcomifbfldoeiaaGreatDoor.FeedSequences
open Go Go.Proofs.YtcomifbfldoeiaaGreatDoor
theorem said : Rows.FeedSequencesSaid :=
  OpenClaim.holds_of_cond 8 Tryz.f8 rfl rfl rfl rfl rfl rfl rfl ⟨rfl, rfl, rfl, rfl, rfl⟩ rfl rfl rfl rfl rfl named Tryz.func8 closed inst wrap
    (fun os started H enc _ F => by rw [OpenClaim.pre_eq_preRow]; exact lifted os started H enc F)
/-- No parameter wants a stand-in. -/
theorem plain (f : FuncId) (fn : Func) (hf : Tryz.pinned.checked.prog.funcNamed "timetable/timetablelaw40.FeedSequences" = some f) (hfn : Tryz.pinned.checked.prog.funcs[f]? = some fn) :
    true = Tryz.pinned.checked.prog.looks [] ∧ ∀ (j : Nat) t, fn.params[j]? = some t → Tryz.pinned.checked.prog.wantsStandIn t = false := by
  obtain rfl : f = 8 := Option.some.inj ((show Tryz.prog.funcNamed "timetable/timetablelaw40.FeedSequences" = some 8 by kernel_rfl).symm.trans hf) |>.symm
  obtain rfl : fn = Tryz.f8 := (Option.some.inj (Tryz.func8.symm.trans hfn)).symm
  refine ⟨by kernel_rfl, fun j t ht => ?_⟩
  rw [Tryz.params8] at ht
  have hm : t ∈ [22] := by simpa using Array.mem_of_getElem? ht
  have hall : ([22].all fun u => !Tryz.prog.wantsStandIn u) = true := by kernel_rfl
  exact (show Tryz.prog.wantsStandIn t = false by simpa using List.all_eq_true.1 hall t hm)

theorem wfText : Rows.feedSequencesRow.wfByText (OpenSpec.ofChange Rows.feedSequencesSpec) = true := by kernel_rfl
theorem main : Tryz.pinned.checked.prog.mainIs = some (Rows.feedSequencesCard.stood.harness.1, Rows.feedSequencesCard.stood.harness.2.toList) := by kernel_rfl
theorem goes : false = Rows.feedSequencesRow.goesBy Tryz.pinned.checked.prog := by kernel_rfl
/-- THE CARD. -/
theorem card : Rows.FeedSequencesCardSaid :=
  Claim7.holds_tied_plain_at .later [] [.data, .data, .data, .data, .data, .sentinel, .sentinel, .pinned] true Rows.feedSequencesCard.stood.harness true said (fun _ h => by cases h) wfText (fun _ h => by cases h) feedSequences_row_tie rfl ⟨rfl, rfl⟩ main rfl plain goes
end Go.Proofs.YtcomifbfldoeiaaGreatDoor.FeedSequences
