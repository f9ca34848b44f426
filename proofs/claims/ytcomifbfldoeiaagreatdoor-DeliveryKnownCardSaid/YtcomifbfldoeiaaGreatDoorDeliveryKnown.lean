/- DeliveryKnown returns true for every list of whole numbers, which reads afterwards as before. Conditions: the listed package variables hold what the pruned copy of the program lays (tied). -/
import Derived.Test.YtcomifbfldoeiaaGreatDoorDeliveryKnownRow
import Derived.Test.YtcomifbfldoeiaaGreatDoorDeliveryKnownFacts
namespace Go.Proofs.YtcomifbfldoeiaaGreatDoor.DeliveryKnown
open Go Go.Proofs.YtcomifbfldoeiaaGreatDoor
theorem said : Rows.DeliveryKnownSaid :=
 OpenClaim.holds_of_cond 7 Tryz.f7 rfl rfl rfl rfl rfl rfl rfl ⟨rfl,rfl,rfl,rfl,rfl⟩ rfl rfl rfl rfl rfl named Tryz.func7 closed inst wrap
  (fun os started H enc _ F => by rw [OpenClaim.pre_eq_preRow];exact lifted os started H enc F)
theorem plain (f : FuncId) (fn : Func) (hf : Tryz.pinned.checked.prog.funcNamed "timetable/timetablelaw42.DeliveryKnown" = some f) (hfn : Tryz.pinned.checked.prog.funcs[f]? = some fn) :
  true = Tryz.pinned.checked.prog.looks [] /\ ∀ (j : Nat) t,fn.params[j]? = some t -> Tryz.pinned.checked.prog.wantsStandIn t = false:=by
 obtain rfl : f = 7:=Option.some.inj ((show Tryz.prog.funcNamed "timetable/timetablelaw42.DeliveryKnown" = some 7 by kernel_rfl).symm.trans hf) |>.symm
 obtain rfl : fn = Tryz.f7:=(Option.some.inj (Tryz.func7.symm.trans hfn)).symm;refine ⟨by kernel_rfl,fun j t ht => ?_⟩;rw [Tryz.params7] at ht;have hm : t ∈ [22]:=by simpa using Array.mem_of_getElem? ht
 have hall : ([22].all fun u => !Tryz.prog.wantsStandIn u) = true:=by kernel_rfl
 exact (show Tryz.prog.wantsStandIn t = false by simpa using List.all_eq_true.1 hall t hm)
theorem wfText : Rows.deliveryKnownRow.wfByText (OpenSpec.ofChange Rows.deliveryKnownSpec) = true:=by kernel_rfl
theorem main : Tryz.pinned.checked.prog.mainIs = some (Rows.deliveryKnownCard.stood.harness.1,Rows.deliveryKnownCard.stood.harness.2.toList):=by kernel_rfl
theorem goes : false = Rows.deliveryKnownRow.goesBy Tryz.pinned.checked.prog:=by kernel_rfl
theorem card : Rows.DeliveryKnownCardSaid :=
 Claim7.holds_tied_plain_at .later [] [.data,.data,.data,.data,.data,.sentinel,.sentinel,.pinned] true Rows.deliveryKnownCard.stood.harness true said (fun _ h => by cases h) wfText (fun _ h => by cases h) deliveryKnown_row_tie rfl ⟨rfl,rfl⟩ main rfl plain goes
end Go.Proofs.YtcomifbfldoeiaaGreatDoor.DeliveryKnown
