/- SubscriberAgenda returns true for every list of whole numbers and every number, and they read afterwards as before. Conditions: the listed package variables hold what the pruned copy of the program lays (tied). -/
import Derived.Test.YtageielcdebjlaaGreatDoorSubscriberAgendaRow
import Derived.Test.YtageielcdebjlaaGreatDoorSubscriberAgendaFacts
namespace Go.Proofs.YtageielcdebjlaaGreatDoor.SubscriberAgenda
open Go Go.Proofs.YtageielcdebjlaaGreatDoor
theorem said : Rows.SubscriberAgendaSaid :=
  OpenClaim.holds_of_cond 5 Tryz.f5 rfl rfl rfl rfl rfl rfl rfl ⟨rfl, rfl, rfl, rfl, rfl⟩ rfl rfl rfl rfl rfl named Tryz.func5 closed inst wrap
    (fun os started H enc _ F => by rw [OpenClaim.pre_eq_preRow]; exact lifted os started H enc F)
/-- No parameter wants a stand-in. -/
theorem plain (f : FuncId) (fn : Func) (hf : Tryz.pinned.checked.prog.funcNamed "timetable/timetablelaw41.SubscriberAgenda" = some f) (hfn : Tryz.pinned.checked.prog.funcs[f]? = some fn) :
    true = Tryz.pinned.checked.prog.looks [] ∧ ∀ (j : Nat) t, fn.params[j]? = some t → Tryz.pinned.checked.prog.wantsStandIn t = false := by
  obtain rfl : f = 5 := Option.some.inj ((show Tryz.prog.funcNamed "timetable/timetablelaw41.SubscriberAgenda" = some 5 by kernel_rfl).symm.trans hf) |>.symm
  obtain rfl : fn = Tryz.f5 := (Option.some.inj (Tryz.func5.symm.trans hfn)).symm
  refine ⟨by kernel_rfl, fun j t ht => ?_⟩
  rw [Tryz.params5] at ht
  have hm : t ∈ [27, 3] := by simpa using Array.mem_of_getElem? ht
  have hall : ([27, 3].all fun u => !Tryz.prog.wantsStandIn u) = true := by kernel_rfl
  exact (show Tryz.prog.wantsStandIn t = false by simpa using List.all_eq_true.1 hall t hm)

theorem wfText : Rows.subscriberAgendaRow.wfByText (OpenSpec.ofChange Rows.subscriberAgendaSpec) = true := by kernel_rfl
theorem main : Tryz.pinned.checked.prog.mainIs = some (Rows.subscriberAgendaCard.stood.harness.1, Rows.subscriberAgendaCard.stood.harness.2.toList) := by kernel_rfl
theorem goes : false = Rows.subscriberAgendaRow.goesBy Tryz.pinned.checked.prog := by kernel_rfl
/-- THE CARD. -/
theorem card : Rows.SubscriberAgendaCardSaid :=
  Claim7.holds_tied_plain_at .later [] [.data, .data, .data] true Rows.subscriberAgendaCard.stood.harness true said (fun _ h => by cases h) wfText (fun _ h => by cases h) subscriberAgenda_row_tie rfl ⟨rfl, rfl⟩ main rfl plain goes
end Go.Proofs.YtageielcdebjlaaGreatDoor.SubscriberAgenda
