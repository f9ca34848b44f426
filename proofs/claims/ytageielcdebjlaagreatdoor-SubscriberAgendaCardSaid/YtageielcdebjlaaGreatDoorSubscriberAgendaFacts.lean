/- SubscriberAgenda: the row's closed facts, each by itself. -/
import Derived.Test.YtageielcdebjlaaGreatDoorCards
import Derived.JoinedCond
namespace Go.Proofs.YtageielcdebjlaaGreatDoor.SubscriberAgenda
open Go
theorem and_t {a b : Bool} (ha : a = true) (hb : b = true) : (a && b) = true := by rw [ha, hb]; rfl
set_option maxRecDepth 100000 in
set_option maxHeartbeats 40000000 in
theorem closed : joinedFacts Tryz.pinned.checked.prog 5 Tryz.f5 (OpenSpec.ofChange Rows.subscriberAgendaSpec).bare Rows.subscriberAgendaRow = true := by
  unfold joinedFacts
  repeat' (with_reducible refine and_t ?_ ?_)
  all_goals as_aux_lemma => kernel_rfl
theorem named : Tryz.pinned.checked.prog.funcNamed Rows.subscriberAgendaRow.func = some 5 := by kernel_rfl
theorem inst : Tryz.f5.isInstance Tryz.pinned.checked.prog Rows.subscriberAgendaRow.origin Rows.subscriberAgendaRow.targs := of_decide_eq_true (by kernel_rfl)
theorem wrap : Tryz.f5.isWrapper Tryz.pinned.checked.prog Rows.subscriberAgendaRow.wrapper Rows.subscriberAgendaRow.mainSum := by
  unfold Func.isWrapper; first | (rw [if_pos (by decide +kernel)]; kernel_rfl) | (rw [if_neg (by decide +kernel)]; exact ⟨rfl, rfl⟩)
end Go.Proofs.YtageielcdebjlaaGreatDoor.SubscriberAgenda
