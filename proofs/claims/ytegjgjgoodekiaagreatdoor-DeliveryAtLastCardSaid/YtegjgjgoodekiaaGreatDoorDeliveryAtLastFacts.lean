/- DeliveryAtLast: the row's closed facts, each by itself. -/
import Derived.Test.YtegjgjgoodekiaaGreatDoorCards
import Derived.JoinedCond
namespace Go.Proofs.YtegjgjgoodekiaaGreatDoor.DeliveryAtLast
open Go
theorem and_t{a b:Bool}(ha:a=true)(hb:b=true):(a && b)=true:=by rw[ha,hb];rfl
set_option maxRecDepth 100000 in
set_option maxHeartbeats 40000000 in
theorem closed:joinedFacts Tryz.pinned.checked.prog 3 Tryz.f3 (OpenSpec.ofChange Rows.deliveryAtLastSpec).bare Rows.deliveryAtLastRow=true:=by
 unfold joinedFacts;repeat' (with_reducible refine and_t ?_ ?_)
 all_goals as_aux_lemma=>kernel_rfl
theorem named:Tryz.pinned.checked.prog.funcNamed Rows.deliveryAtLastRow.func=some 3:=by kernel_rfl
theorem inst:Tryz.f3.isInstance Tryz.pinned.checked.prog Rows.deliveryAtLastRow.origin Rows.deliveryAtLastRow.targs:=of_decide_eq_true (by kernel_rfl)
theorem wrap:Tryz.f3.isWrapper Tryz.pinned.checked.prog Rows.deliveryAtLastRow.wrapper Rows.deliveryAtLastRow.mainSum:=by
 unfold Func.isWrapper;first | (rw[if_pos (by decide+kernel)];kernel_rfl) | (rw[if_neg (by decide+kernel)];exact⟨rfl,rfl⟩)
end Go.Proofs.YtegjgjgoodekiaaGreatDoor.DeliveryAtLast
