/- DeliveryAtLast returns true for every list of whole numbers and every byte, which read afterwards as before. Conditions: the listed package variables hold what the pruned copy of the program lays (tied). -/
import Derived.Test.YtegjgjgoodekiaaGreatDoorDeliveryAtLastRow
import Derived.Test.YtegjgjgoodekiaaGreatDoorDeliveryAtLastFacts
open Option.some renaming inj->xa
namespace Go.Proofs.YtegjgjgoodekiaaGreatDoor.DeliveryAtLast
open Go Go.Proofs.YtegjgjgoodekiaaGreatDoor
theorem said:Rows.DeliveryAtLastSaid:=
 OpenClaim.holds_of_cond 3 Tryz.f3 rfl rfl rfl rfl rfl rfl rfl ⟨rfl,rfl,rfl,rfl,rfl⟩ rfl rfl rfl rfl rfl named Tryz.func3 closed inst wrap
  (fun A w H enc _ F=>by rw[OpenClaim.pre_eq_preRow];exact lifted A w H enc F)
theorem plain(f:FuncId)(A:Func)(hf:Tryz.pinned.checked.prog.funcNamed "timetable/timetablelaw42.DeliveryAtLast"=some f)(w:Tryz.pinned.checked.prog.funcs[f]?=some A):
  true=Tryz.pinned.checked.prog.looks []/\ ∀(j:Nat) t,A.params[j]?=some t->Tryz.pinned.checked.prog.wantsStandIn t=false:=by
 obtain rfl:f=3:=xa ((show Tryz.prog.funcNamed "timetable/timetablelaw42.DeliveryAtLast"=some 3 by kernel_rfl).symm.trans hf) |>.symm
 obtain rfl:A=Tryz.f3:=(xa (Tryz.func3.symm.trans w)).symm;refine⟨by kernel_rfl,fun j t ht=>?_⟩;rw[Tryz.params3]at ht;have hm:t∈[22,5]:=by simpa using Array.mem_of_getElem? ht
 have hall:([22,5].all fun u=>!Tryz.prog.wantsStandIn u)=true:=by kernel_rfl
 exact(show Tryz.prog.wantsStandIn t=false by simpa using List.all_eq_true.1 hall t hm)
theorem wfText:Rows.deliveryAtLastRow.wfByText (OpenSpec.ofChange Rows.deliveryAtLastSpec)=true:=by kernel_rfl
theorem main:Tryz.pinned.checked.prog.mainIs=some (Rows.deliveryAtLastCard.stood.harness.1,Rows.deliveryAtLastCard.stood.harness.2.toList):=by kernel_rfl
theorem goes:false=Rows.deliveryAtLastRow.goesBy Tryz.pinned.checked.prog:=by kernel_rfl
theorem card:Rows.DeliveryAtLastCardSaid:=
 Claim7.holds_tied_plain_at .later [] [.data,.data,.data,.data,.data,.sentinel,.sentinel,.pinned] true Rows.deliveryAtLastCard.stood.harness true said (fun _ h=>by cases h) wfText (fun _ h=>by cases h) deliveryAtLast_row_tie rfl ⟨rfl,rfl⟩ main rfl plain goes
end Go.Proofs.YtegjgjgoodekiaaGreatDoor.DeliveryAtLast
