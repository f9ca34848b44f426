/- SubscriberOnce: the row's closed facts, each by itself. -/
import Derived.Test.YtageielcdebjlaaGreatDoorCards
import Derived.JoinedCond
namespace Go.Proofs.YtageielcdebjlaaGreatDoor.SubscriberOnce
open Go
theorem and_t {a b : Bool} (ha : a = true) (hb : b = true) : (a && b) = true:=by rw [ha,hb];rfl
set_option maxRecDepth 100000 in
set_option maxHeartbeats 40000000 in
theorem closed : joinedFacts Tryz.pinned.checked.prog 11 Tryz.f11 (OpenSpec.ofChange Rows.subscriberOnceSpec).bare Rows.subscriberOnceRow = true:=by
 unfold joinedFacts;repeat' (with_reducible refine and_t ?_ ?_)
 all_goals as_aux_lemma => kernel_rfl
theorem named : Tryz.pinned.checked.prog.funcNamed Rows.subscriberOnceRow.func = some 11:=by kernel_rfl
theorem inst : Tryz.f11.isInstance Tryz.pinned.checked.prog Rows.subscriberOnceRow.origin Rows.subscriberOnceRow.targs:=of_decide_eq_true (by kernel_rfl)
theorem wrap : Tryz.f11.isWrapper Tryz.pinned.checked.prog Rows.subscriberOnceRow.wrapper Rows.subscriberOnceRow.mainSum:=by
 unfold Func.isWrapper;first | (rw [if_pos (by decide +kernel)];kernel_rfl) | (rw [if_neg (by decide +kernel)];exact ⟨rfl,rfl⟩)
end Go.Proofs.YtageielcdebjlaaGreatDoor.SubscriberOnce
