/- DeliveryCut returns true for every list of whole numbers and every byte, which read afterwards as before. Conditions: the listed package variables hold what the pruned copy of the program lays (tied). -/
import Derived.Test.YtcomifbfldoeiaaGreatDoorDeliveryCutRow
import Derived.Test.YtcomifbfldoeiaaGreatDoorDeliveryCutFacts
open Option.some renaming inj->xa
namespace Go.Proofs.YtcomifbfldoeiaaGreatDoor.DeliveryCut
open Go Go.Proofs.YtcomifbfldoeiaaGreatDoor
theorem said : Rows.DeliveryCutSaid :=
 OpenClaim.holds_of_cond 6 Tryz.f6 rfl rfl rfl rfl rfl rfl rfl ⟨rfl,rfl,rfl,rfl,rfl⟩ rfl rfl rfl rfl rfl named Tryz.func6 closed inst wrap
  (fun os started H enc _ F => by rw [OpenClaim.pre_eq_preRow];exact lifted os started H enc F)
theorem plain (f : FuncId) (fn : Func) (hf : Tryz.pinned.checked.prog.funcNamed "timetable/timetablelaw42.DeliveryCut" = some f) (hfn : Tryz.pinned.checked.prog.funcs[f]? = some fn) :
  true = Tryz.pinned.checked.prog.looks [] /\ ∀ (j : Nat) t,fn.params[j]? = some t -> Tryz.pinned.checked.prog.wantsStandIn t = false:=by
 obtain rfl : f = 6:=xa ((show Tryz.prog.funcNamed "timetable/timetablelaw42.DeliveryCut" = some 6 by kernel_rfl).symm.trans hf) |>.symm
 obtain rfl : fn = Tryz.f6:=(xa (Tryz.func6.symm.trans hfn)).symm;refine ⟨by kernel_rfl,fun j t ht => ?_⟩;rw [Tryz.params6] at ht;have hm : t ∈ [22,3]:=by simpa using Array.mem_of_getElem? ht
 have hall : ([22,3].all fun u => !Tryz.prog.wantsStandIn u) = true:=by kernel_rfl
 exact (show Tryz.prog.wantsStandIn t = false by simpa using List.all_eq_true.1 hall t hm)
theorem wfText : Rows.deliveryCutRow.wfByText (OpenSpec.ofChange Rows.deliveryCutSpec) = true:=by kernel_rfl
theorem main : Tryz.pinned.checked.prog.mainIs = some (Rows.deliveryCutCard.stood.harness.1,Rows.deliveryCutCard.stood.harness.2.toList):=by kernel_rfl
theorem goes : false = Rows.deliveryCutRow.goesBy Tryz.pinned.checked.prog:=by kernel_rfl
theorem card : Rows.DeliveryCutCardSaid :=
 Claim7.holds_tied_plain_at .later [] [.data,.data,.data,.data,.data,.sentinel,.sentinel,.pinned] true Rows.deliveryCutCard.stood.harness true said (fun _ h => by cases h) wfText (fun _ h => by cases h) deliveryCut_row_tie rfl ⟨rfl,rfl⟩ main rfl plain goes
end Go.Proofs.YtcomifbfldoeiaaGreatDoor.DeliveryCut
