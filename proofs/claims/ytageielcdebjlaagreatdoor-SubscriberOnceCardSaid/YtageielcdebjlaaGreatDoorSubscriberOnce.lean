/- SubscriberOnce returns true for every two lists of whole numbers, and both read afterwards as before. Conditions: the listed package variables hold what the pruned copy of the program lays (tied). -/
import Derived.Test.YtageielcdebjlaaGreatDoorSubscriberOnceRow
import Derived.Test.YtageielcdebjlaaGreatDoorSubscriberOnceFacts
namespace Go.Proofs.YtageielcdebjlaaGreatDoor.SubscriberOnce
open Go Go.Proofs.YtageielcdebjlaaGreatDoor
theorem said : Rows.SubscriberOnceSaid :=
 OpenClaim.holds_of_cond 11 Tryz.f11 rfl rfl rfl rfl rfl rfl rfl ⟨rfl,rfl,rfl,rfl,rfl⟩ rfl rfl rfl rfl rfl named Tryz.func11 closed inst wrap
  (fun os started H enc _ F => by rw [OpenClaim.pre_eq_preRow];exact lifted os started H enc F)
theorem plain (f : FuncId) (fn : Func) (hf : Tryz.pinned.checked.prog.funcNamed "timetable/timetablelaw41.SubscriberOnce" = some f) (hfn : Tryz.pinned.checked.prog.funcs[f]? = some fn) :
  true = Tryz.pinned.checked.prog.looks [] /\ ∀ (j : Nat) t,fn.params[j]? = some t -> Tryz.pinned.checked.prog.wantsStandIn t = false:=by
 obtain rfl : f = 11:=Option.some.inj ((show Tryz.prog.funcNamed "timetable/timetablelaw41.SubscriberOnce" = some 11 by kernel_rfl).symm.trans hf) |>.symm
 obtain rfl : fn = Tryz.f11:=(Option.some.inj (Tryz.func11.symm.trans hfn)).symm;refine ⟨by kernel_rfl,fun j t ht => ?_⟩;rw [Tryz.params11] at ht;have hm : t ∈ [27,27]:=by simpa using Array.mem_of_getElem? ht
 have hall : ([27,27].all fun u => !Tryz.prog.wantsStandIn u) = true:=by kernel_rfl
 exact (show Tryz.prog.wantsStandIn t = false by simpa using List.all_eq_true.1 hall t hm)
theorem wfText : Rows.subscriberOnceRow.wfByText (OpenSpec.ofChange Rows.subscriberOnceSpec) = true:=by kernel_rfl
theorem main : Tryz.pinned.checked.prog.mainIs = some (Rows.subscriberOnceCard.stood.harness.1,Rows.subscriberOnceCard.stood.harness.2.toList):=by kernel_rfl
theorem goes : false = Rows.subscriberOnceRow.goesBy Tryz.pinned.checked.prog:=by kernel_rfl
theorem card : Rows.SubscriberOnceCardSaid :=
 Claim7.holds_tied_plain_at .later [] [.data,.data,.data] true Rows.subscriberOnceCard.stood.harness true said (fun _ h => by cases h) wfText (fun _ h => by cases h) subscriberOnce_row_tie rfl ⟨rfl,rfl⟩ main rfl plain goes
end Go.Proofs.YtageielcdebjlaaGreatDoor.SubscriberOnce
