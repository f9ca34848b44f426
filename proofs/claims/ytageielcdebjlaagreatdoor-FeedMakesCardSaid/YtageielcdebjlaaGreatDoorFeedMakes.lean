/- FeedMakes returns true for every list of lists of sessions, every text and every list of whole numbers, and all three read afterwards as before. Conditions: the listed package variables hold what the pruned copy of the program lays (tied). -/
import Derived.Test.YtageielcdebjlaaGreatDoorFeedMakesRow
import Derived.Test.YtageielcdebjlaaGreatDoorFeedMakesFacts
namespace Go.Proofs.YtageielcdebjlaaGreatDoor.FeedMakes
open Go Go.Proofs.YtageielcdebjlaaGreatDoor
theorem said : Rows.FeedMakesSaid :=
 OpenClaim.holds_of_cond 14 Tryz.f14 rfl rfl rfl rfl rfl rfl rfl ⟨rfl,rfl,rfl,rfl,rfl⟩ rfl rfl rfl rfl rfl named Tryz.func14 closed inst wrap
  (fun os started H enc _ F => by rw [OpenClaim.pre_eq_preRow];exact lifted os started H enc F)
theorem plain (f : FuncId) (fn : Func) (hf : Tryz.pinned.checked.prog.funcNamed "timetable/timetablelaw40.FeedMakes" = some f) (hfn : Tryz.pinned.checked.prog.funcs[f]? = some fn) :
  true = Tryz.pinned.checked.prog.looks [] /\ ∀ (j : Nat) t,fn.params[j]? = some t -> Tryz.pinned.checked.prog.wantsStandIn t = false:=by
 obtain rfl : f = 14:=Option.some.inj ((show Tryz.prog.funcNamed "timetable/timetablelaw40.FeedMakes" = some 14 by kernel_rfl).symm.trans hf) |>.symm
 obtain rfl : fn = Tryz.f14:=(Option.some.inj (Tryz.func14.symm.trans hfn)).symm;refine ⟨by kernel_rfl,fun j t ht => ?_⟩;rw [Tryz.params14] at ht;have hm : t ∈ [95,9,27]:=by simpa using Array.mem_of_getElem? ht
 have hall : ([95,9,27].all fun u => !Tryz.prog.wantsStandIn u) = true:=by kernel_rfl
 exact (show Tryz.prog.wantsStandIn t = false by simpa using List.all_eq_true.1 hall t hm)
theorem wfText : Rows.feedMakesRow.wfByText (OpenSpec.ofChange Rows.feedMakesSpec) = true:=by kernel_rfl
theorem main : Tryz.pinned.checked.prog.mainIs = some (Rows.feedMakesCard.stood.harness.1,Rows.feedMakesCard.stood.harness.2.toList):=by kernel_rfl
theorem goes : false = Rows.feedMakesRow.goesBy Tryz.pinned.checked.prog:=by kernel_rfl
theorem card : Rows.FeedMakesCardSaid :=
 Claim7.holds_tied_plain_at .later [] [.data,.data,.data,.data,.data,.sentinel,.sentinel,.pinned] true Rows.feedMakesCard.stood.harness true said (fun _ h => by cases h) wfText (fun _ h => by cases h) feedMakes_row_tie rfl ⟨rfl,rfl⟩ main rfl plain goes
end Go.Proofs.YtageielcdebjlaaGreatDoor.FeedMakes
