/- DeliveryCut: the row's closed facts, each by itself. -/
import Derived.Test.YtcomifbfldoeiaaGreatDoorCards
import Derived.JoinedCond
namespace Go.Proofs.YtcomifbfldoeiaaGreatDoor.DeliveryCut
open Go
theorem and_t {a b : Bool} (ha : a = true) (hb : b = true) : (a && b) = true:=by rw [ha,hb];rfl
set_option maxRecDepth 100000 in
set_option maxHeartbeats 40000000 in
theorem closed : joinedFacts Tryz.pinned.checked.prog 6 Tryz.f6 (OpenSpec.ofChange Rows.deliveryCutSpec).bare Rows.deliveryCutRow = true:=by
 unfold joinedFacts;repeat' (with_reducible refine and_t ?_ ?_)
 all_goals as_aux_lemma => kernel_rfl
theorem named : Tryz.pinned.checked.prog.funcNamed Rows.deliveryCutRow.func = some 6:=by kernel_rfl
theorem inst : Tryz.f6.isInstance Tryz.pinned.checked.prog Rows.deliveryCutRow.origin Rows.deliveryCutRow.targs:=of_decide_eq_true (by kernel_rfl)
theorem wrap : Tryz.f6.isWrapper Tryz.pinned.checked.prog Rows.deliveryCutRow.wrapper Rows.deliveryCutRow.mainSum:=by
 unfold Func.isWrapper;first | (rw [if_pos (by decide +kernel)];kernel_rfl) | (rw [if_neg (by decide +kernel)];exact ⟨rfl,rfl⟩)
end Go.Proofs.YtcomifbfldoeiaaGreatDoor.DeliveryCut
