/- FeedHeld returns true for every list of whole numbers and every byte, which read afterwards as before. Conditions: the listed package variables hold what the pruned copy of the program lays (tied). -/
import Derived.Test.YtcomifbfldoeiaaGreatDoorFeedHeldRow
import Derived.Test.YtcomifbfldoeiaaGreatDoorFeedHeldFacts
namespace Go.Proofs.YtcomifbfldoeiaaGreatDoor.FeedHeld
open Go Go.Proofs.YtcomifbfldoeiaaGreatDoor
theorem said : Rows.FeedHeldSaid :=
  OpenClaim.holds_of_cond 9 Tryz.f9 rfl rfl rfl rfl rfl rfl rfl ⟨rfl, rfl, rfl, rfl, rfl⟩ rfl rfl rfl rfl rfl named Tryz.func9 closed inst wrap
    (fun os started H enc _ F => by rw [OpenClaim.pre_eq_preRow]; exact lifted os started H enc F)
/-- No parameter wants a stand-in. -/
theorem plain (f : FuncId) (fn : Func) (hf : Tryz.pinned.checked.prog.funcNamed "timetable/timetablelaw40.FeedHeld" = some f) (hfn : Tryz.pinned.checked.prog.funcs[f]? = some fn) :
    true = Tryz.pinned.checked.prog.looks [] ∧ ∀ (j : Nat) t, fn.params[j]? = some t → Tryz.pinned.checked.prog.wantsStandIn t = false := by
  obtain rfl : f = 9 := Option.some.inj ((show Tryz.prog.funcNamed "timetable/timetablelaw40.FeedHeld" = some 9 by kernel_rfl).symm.trans hf) |>.symm
  obtain rfl : fn = Tryz.f9 := (Option.some.inj (Tryz.func9.symm.trans hfn)).symm
  refine ⟨by kernel_rfl, fun j t ht => ?_⟩
  rw [Tryz.params9] at ht
  have hm : t ∈ [22, 5] := by simpa using Array.mem_of_getElem? ht
  have hall : ([22, 5].all fun u => !Tryz.prog.wantsStandIn u) = true := by kernel_rfl
  exact (show Tryz.prog.wantsStandIn t = false by simpa using List.all_eq_true.1 hall t hm)

theorem wfText : Rows.feedHeldRow.wfByText (OpenSpec.ofChange Rows.feedHeldSpec) = true := by kernel_rfl
theorem main : Tryz.pinned.checked.prog.mainIs = some (Rows.feedHeldCard.stood.harness.1, Rows.feedHeldCard.stood.harness.2.toList) := by kernel_rfl
theorem goes : false = Rows.feedHeldRow.goesBy Tryz.pinned.checked.prog := by kernel_rfl
/-- THE CARD. -/
theorem card : Rows.FeedHeldCardSaid :=
  Claim7.holds_tied_plain_at .later [] [.data, .data, .data, .data, .data, .sentinel, .sentinel, .pinned] true Rows.feedHeldCard.stood.harness true said (fun _ h => by cases h) wfText (fun _ h => by cases h) feedHeld_row_tie rfl ⟨rfl, rfl⟩ main rfl plain goes
end Go.Proofs.YtcomifbfldoeiaaGreatDoor.FeedHeld
