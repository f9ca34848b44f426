/- Events in a row of their own, as a drawn feed holds them. No function of the program in sight. Condition: none. A region that draws its order, by an invariant: one goal for each operation. No function of the program in sight. Condition: none. A region that draws its order and ends in one operation that waits for all others: an invariant for those before it. No function of the program in sight. Condition: none. Regions that only make blocks; an event's block filled anew. No function of the program in sight. Condition: none. subscriber.told, timetableref41.kind, timetableref40.Find: their contracts. timetableref39.Same: its contract: are two series the same? timetableref40.SameEvent: its contract. timetableref40.SameEvents: its contract. timetableref41.Same and timetableref41.SameNotices: their contracts. subscriber.Valid, timetableref41.Valid and the law's short: their contracts. Stretches of events in memory: their cells and what they refer to. No function of the program in sight. Condition: none. An append of a stretch of events to a row of one's own. No function of the program in sight. Condition: none. Plain facts on the reference's Put: an event laid into a list in the order of the identifiers. No program in sight. Condition: none. -/
import Derived.Test.YtcomifbfldoeiaaGreatDoorGenE
import Derived.Orders
import Derived.Deep.DeepCutAuto
import Derived.Laws.AppendOwnNone
import Derived.Test.YtcomifbfldoeiaaGreatDoorQk8
import Derived.StillTailTactics
open List renaming getElem?_eq_getElem->xa,getElem?_eq_none->xb,mem_cons_of_mem->xd,take_append_drop->xh,mem_of_getElem?->xi,mem_cons_self->xj,getElem?_map->xk,length_take->xl,mem_cons->xm,map_cons->xn
open Bool renaming and_eq_true->xc
open Nat renaming zero_le->xe,le_refl->xf,le_trans->xo
open Array renaming getElem?_eq_some_iff->xg
set_option maxRecDepth 100000
set_option maxHeartbeats 40000000
-- RowEv
namespace Go.Proofs.YtcomifbfldoeiaaGreatDoor
open Go.RowKit
def tCells (ts : List (Ev × Value × Value)) : List Value:=ts.flatMap fun t => (evCells t.1 t.2.1 t.2.2).toList
theorem tCells_len : ∀ ts : List (Ev × Value × Value),(tCells ts).length = ts.length * 13
 | [] => rfl
 | t :: r => by
  show ((evCells t.1 t.2.1 t.2.2).toList ++ tCells r).length = _
  rw [List.length_append,tCells_len r,List.length_cons];show 13 + _ = _
  omega
theorem tCells_get : ∀ (ts : List (Ev × Value × Value)) (j i : Nat) (t : Ev × Value × Value),ts[j]? = some t -> i < 13 -> (tCells ts)[j * 13 + i]? = (evCells t.1 t.2.1 t.2.2).toList[i]?
 | [],_,_,_,h,_ => by simp at h
 | t0 :: r,0,i,t,h,hi => by
  simp at h;subst h;show ((evCells t0.1 t0.2.1 t0.2.2).toList ++ tCells r)[0 * 13 + i]? = _
  rw [show 0 * 13 + i = i by omega,List.getElem?_append_left (by show i < 13;exact hi)]
 | t0 :: r,j + 1,i,t,h,hi => by
  show ((evCells t0.1 t0.2.1 t0.2.2).toList ++ tCells r)[(j + 1) * 13 + i]? = _
  rw [List.getElem?_append_right (by show 13 <= _;omega),show (j + 1) * 13 + i - (evCells t0.1 t0.2.1 t0.2.2).toList.length = j * 13 + i by show _ - 13 = _;omega];exact tCells_get r j i t (by simpa using h) hi
theorem tCells_snoc (ts : List (Ev × Value × Value)) (t : Ev × Value × Value) : tCells (ts ++ [t]) = tCells ts ++ (evCells t.1 t.2.1 t.2.2).toList:=by
 unfold tCells;simp
def RefG (lo : Nat) (w : World) (t : Ev × Value × Value) : Prop:=EvG t.1 /\ RowI lo w t.2.1 t.1.days.ex /\ RowI lo w t.2.2 t.1.days.xt
structure RowE (lo : Nat) (w : World) (v : Value) (ts : List (Ev × Value × Value)) : Prop where
 row : w.ownsRow lo 104 13 v ts.length (tCells ts)
 ref : ∀ t ∈ ts,RefG lo w t
theorem RowE.evs {lo : Nat} {w : World} {v : Value} {ts : List (Ev × Value × Value)} (h : RowE lo w v ts) : ∃ ao c,v = .slice ao (ts.map (·.1)).length c /\ Evs w.heap.size w ao (ts.map (·.1)):=by
 rcases h.row.2 with ⟨hv,h0⟩ | ⟨g,cap,cur,hv,r2,r3,r4,r5,_⟩
 ·have : ts = []:=List.eq_nil_of_length_eq_zero h0;subst this;exact ⟨none,0,hv,.inl rfl⟩
 ·refine ⟨_,cap,by rw [hv];simp,.inr ⟨g,0,rfl,(xg.1 r3).1,fun j e hj => ?_⟩⟩;obtain ⟨t,ht,he⟩ : ∃ t,ts[j]? = some t /\ t.1 = e:=by
   rw [xk] at hj;cases h2 : ts[j]? with
   | none => rw [h2] at hj;cases hj
   | some t => rw [h2] at hj;exact ⟨t,rfl,by simpa using hj⟩
  subst he;obtain ⟨hg,hx,hy⟩:=h.ref t (xi ht);obtain ⟨ax,cx,e1,i1⟩:=hx.ints;obtain ⟨ay,cy,e2,i2⟩:=hy.ints;have hc : ∀ i u,i < 13 -> (evCells t.1 t.2.1 t.2.2).toList[i]? = some u -> w.cell? ⟨g,0 + j * 13 + i,none⟩ = some u:=fun i u hi hu => by
   have:=h.row.cells (g:=g) (by rw [hv];rfl) (j * 13 + i) u (by rw [tCells_get ts j i t ht hi];exact hu);rw [Addr.add_lit] at this;rw [<- this,show 0 + j * 13 + i = 0 + (j * 13 + i) by omega]
  refine ⟨hg.b,t.2.1,t.2.2,⟨?_,?_,?_,?_,?_,?_,?_,?_,?_,?_,?_,?_,?_⟩,⟨ax,cx,e1,i1⟩,⟨ay,cy,e2,i2⟩⟩
  ·exact hc 0 _ (by omega) rfl
  ·exact hc 1 _ (by omega) rfl
  ·exact hc 2 _ (by omega) rfl
  ·exact hc 3 _ (by omega) rfl
  ·exact hc 4 _ (by omega) rfl
  ·exact hc 5 _ (by omega) rfl
  ·exact hc 6 _ (by omega) rfl
  ·exact hc 7 _ (by omega) rfl
  ·exact hc 8 _ (by omega) rfl
  ·exact hc 9 _ (by omega) rfl
  ·exact hc 10 _ (by omega) rfl
  ·exact hc 11 _ (by omega) rfl
  ·exact hc 12 _ (by omega) rfl
theorem RowE.nil (lo : Nat) (w : World) : RowE lo w (.slice none 0 0) []:=⟨World.ownsRow_nil _ _ _ _,fun t h => by cases h⟩
theorem RefG.but {b lo : Nat} {w w' : World} {t : Ev × Value × Value} (h : RefG lo w t) (hb : b < lo) (ho : But b w.heap.size w w') : RefG lo w' t:=⟨h.1,row_but h.2.1 hb ho,row_but h.2.2 hb ho⟩
theorem RowE.but {b lo : Nat} {w w' : World} {v : Value} {ts : List (Ev × Value × Value)} (h : RowE lo w v ts) (hb : b < lo) (ho : But b w.heap.size w w') : RowE lo w' v ts:=⟨row_but h.row hb ho,fun t ht => (h.ref t ht).but hb ho⟩
theorem RefG.set {lo : Nat} {w : World} {t : Ev × Value × Value} (h : RefG lo w t) {g : Nat} {cs : Array Value} {ty : TypeId} (hg : Blk g cs ty w) (hte : ty ≠ 3) (i : Nat) (u : Value) : RefG lo (w.setCell ⟨g,i,none⟩ u) t:=⟨h.1,row_set h.2.1 hg hte i u,row_set h.2.2 hg hte i u⟩
theorem RowE.set {lo : Nat} {w : World} {v : Value} {ts : List (Ev × Value × Value)} (h : RowE lo w v ts) {g : Nat} {cs : Array Value} {ty : TypeId} (hg : Blk g cs ty w) (hte : ty ≠ 3) (hte2 : ty ≠ 104) (i : Nat) (u : Value) : RowE lo (w.setCell ⟨g,i,none⟩ u) v ts:=⟨row_set h.row hg hte2 i u,fun t ht => (h.ref t ht).set hg hte i u⟩
theorem RefG.grown {lo B n k : Nat} {w w' : World} {t : Ev × Value × Value} {v : Value} {xs : List Value} (h : RefG lo w t) (hown : w.ownsRow B 104 k v n xs) (hg : w.grownBy w' v.ownBlock) : RefG lo w' t :=
 ⟨h.1,World.ownsRow.kept h.2.1 hg (row_apart_ty h.2.1 hown (by decide)),World.ownsRow.kept h.2.2 hg (row_apart_ty h.2.2 hown (by decide))⟩
theorem RowE.snoc {lo : Nat} {w w' : World} {v v' : Value} {ts : List (Ev × Value × Value)} {t : Ev × Value × Value} (h : RowE lo w v ts) (ht : RefG lo w t) (hg : w.grownBy w' v.ownBlock)
  (hrow : w'.ownsRow lo 104 13 v' (ts.length + 1) (tCells ts ++ (evCells t.1 t.2.1 t.2.2).toList)) : RowE lo w' v' (ts ++ [t]):=by
 refine ⟨by rw [tCells_snoc];simpa using hrow,fun t' h' => ?_⟩;rcases List.mem_append.1 h' with h' | h'
 ·exact (h.ref t' h').grown h.row hg
 ·rw [List.mem_singleton] at h';subst h';exact ht.grown h.row hg
end Go.Proofs.YtcomifbfldoeiaaGreatDoor
-- Inv
namespace Go.Proofs.YtcomifbfldoeiaaGreatDoor
open Go.RowKit
theorem filter_le' {α : Type} (p q : α -> Bool) : ∀ l : List α,(∀ x ∈ l,q x = true -> p x = true) -> (l.filter q).length <= (l.filter p).length
 | [],_ => xf _
 | x :: r,h => by
  have ih:=filter_le' p q r (fun y hy => h y (xd _ hy));have h0:=h x (xj ..);cases hq : q x <;> cases hp : p x <;> simp [hq,hp] at h0 ⊢ <;> omega
theorem filter_lt' {α : Type} (p q : α -> Bool) (i : α) (hp : p i = true) (hq : q i = false) : ∀ l : List α,(∀ x ∈ l,q x = true -> p x = true) -> i ∈ l -> (l.filter q).length < (l.filter p).length
 | [],_,hi => by cases hi
 | x :: r,h,hi => by
  have h0:=h x (xj ..);rcases xm.1 hi with e | hi
  ·subst e;have ih:=filter_le' p q r (fun y hy => h y (xd _ hy));simp [hp,hq];omega
  ·have ih:=filter_lt' p q i hp hq r (fun y hy => h y (xd _ hy)) hi;cases hq2 : q x <;> cases hp2 : p x <;> simp [hq2,hp2] at h0 ⊢ <;> omega
def toCome (ops : Array Oper) (listed : Array Bool) : Nat:=((List.range ops.size).filter fun i => !listed.getD i true).length
section
variable {P : Program} {ops : Array Oper} {Q : Exit -> Act -> World -> Prop} {md : Region.Mode}
theorem ready_mem {listed : Array Bool} {i : Nat} (h : i ∈ Region.ready md ops listed) : i ∈ List.range ops.size /\ listed.getD i true = false:=by
 unfold Region.ready at h;have:=List.mem_filter.1 h;refine ⟨this.1,?_⟩;have h2:=this.2;cases hl : listed.getD i true <;> simp [hl] at h2 ⊢
theorem ready_spec {listed : Array Bool} {i : Nat} (h : i ∈ Region.ready md ops listed) : i < ops.size /\ listed.getD i true = false /\ ∀ o,ops[i]? = some o -> ∀ e ∈ o.after.toList,Region.binds md e = true -> listed.getD e.on false = true:=by
 obtain ⟨h1,h2⟩:=ready_mem h;refine ⟨List.mem_range.1 h1,h2,fun o ho e he hb => ?_⟩;unfold Region.ready at h;have h3:=(List.mem_filter.1 h).2;rw [ho] at h3;simp only [Option.map_some,Option.getD_some,xc] at h3;have h4:=(Array.all_eq_true_iff_forall_mem.1 h3.2) e (Array.mem_toList_iff.1 he);simpa [hb] using h4
theorem wpAny_inv {J : Array Bool -> Act -> World -> Prop}
  (hstep : ∀ listed a w i,J listed a w -> i ∈ Region.ready md ops listed -> wpOp P ops Q i (J (listed.setIfInBounds i true)) a w)
  (hdone : ∀ listed a w,J listed a w -> Region.ready md ops listed = [] -> Q .normal a w) :
  ∀ (fuel : Nat) (listed : Array Bool) (a : Act) (w : World),J listed a w -> toCome ops listed <= fuel -> wpAny P md ops Q fuel listed a w
 | 0,listed,a,w,hJ,hf => by
  have hr : Region.ready md ops listed = []:=by
   refine List.eq_nil_iff_forall_not_mem.2 fun i hi => ?_
   obtain ⟨h1,h2⟩:=ready_mem hi;have : i ∈ (List.range ops.size).filter fun i => !listed.getD i true:=List.mem_filter.2 ⟨h1,by simp [h2]⟩
   have hp:=List.length_pos_of_mem this;unfold toCome at hf;omega
  exact ⟨hr,hdone listed a w hJ hr⟩
 | fuel + 1,listed,a,w,hJ,hf => by
  refine ⟨hdone listed a w hJ,fun i hi => wpOp_mono (fun a' w' h' => wpAny_inv hstep hdone fuel _ a' w' h' ?_) (hstep listed a w i hJ hi)⟩;obtain ⟨h1,h2⟩:=ready_mem hi;have hlt : i < listed.size:=by
   rcases Nat.lt_or_ge i listed.size with h | h
   ·exact h
   ·rw [Array.getD_eq_getD_getElem?,Array.getElem?_eq_none h] at h2;cases h2
  have:=filter_lt' (fun i => !listed.getD i true) (fun j => !(listed.setIfInBounds i true).getD j true) i (by simp [h2]) (by simp [hlt]) (List.range ops.size)
   (fun x _ hx => by
    by_cases e : i = x
    ·subst e;simp [hlt] at hx
    ·simpa [Array.getD_eq_getD_getElem?,Array.getElem?_setIfInBounds_ne e] using hx) h1
  unfold toCome at hf ⊢;omega
def opPost (Q : Exit -> Act -> World -> Prop) (K : Act -> World -> Prop) : Exit -> Act -> World -> Prop
 | .normal,a,w => K a w
 | e,a,w => Q e a w
theorem letsOut_opPost {K : Act -> World -> Prop} (h : LetsOut (opPost Q K)) : LetsOut Q:=h
theorem wp_opPost {o : Oper} {a : Act} {w : World} {K : Act -> World -> Prop} (hh : o.wp P a w K (opPost Q K)) : o.wp P a w K Q:=by
 unfold Oper.wp at *;generalize (execOp a.eval o).run P w = r at *;cases r with
 | ok n w' =>
  cases n <;> simp only [Oper.upon] at hh ⊢ <;>
   first
    | exact hh
    | exact Calls.mono hh (fun e w'' he => by cases e <;> first | exact he | exact letsOut_opPost he)
    | exact Rows.mono hh (fun _ _ he => he)
 | halt x w' => cases x <;> simp only [Oper.upon] at hh ⊢ <;> exact hh
theorem wpOp_of_list {o : Oper} {i : Nat} {a : Act} {w : World} {K : Act -> World -> Prop} (ho : ops[i]? = some o) (h : wpList P ops (opPost Q K) [o] a w) : wpOp P ops Q i K a w:=by
 unfold wpOp;rw [ho];unfold wpList at h;split at h
 ·rename_i hw
  simp only [hw,if_true];exact h.imp (fun h => wp_opPost h) (fun h => ⟨h.1,letsOut_opPost h.2⟩)
 ·rename_i hw
  simp only [hw];exact h
theorem wpOp_of_list_any {o : Oper} {i : Nat} {a : Act} {w : World} {K : Act -> World -> Prop} (ho : ops[i]? = some o) (h : ∀ QQ : Exit -> Act -> World -> Prop,(∀ a w,K a w -> QQ .normal a w) -> wpList P ops QQ [o] a w) : wpOp P ops Q i K a w :=
 wpOp_of_list ho (h _ (fun _ _ h => h))
theorem wp_region_inv {id : Nat} {a : Act} {w : World} (hm : P.follows .mixedOrders = true) (J : Array Bool -> Act -> World -> Prop)
  (h0 : J (Array.replicate ops.size false) a { w with drawn:=w.drawn + 1 })
  (hstep : ∀ listed a w i,J listed a w -> i ∈ Region.ready .any ops listed -> wpOp P ops Q i (J (listed.setIfInBounds i true)) a w)
  (hdone : ∀ listed a w,J listed a w -> Region.ready .any ops listed = [] -> Q .normal a w) : (Code.region id ops true).wp P Q a w :=
 wp_region_any hm (wpAny_inv hstep hdone _ _ _ _ h0 (by
  unfold toCome;refine xo (List.length_filter_le _ _) ?_;simp))
end
end Go.Proofs.YtcomifbfldoeiaaGreatDoor
-- Cond
namespace Go.Proofs.YtcomifbfldoeiaaGreatDoor
open Go.RowKit
def aheadB (ops : Array Oper) : Bool:=(List.range ops.size).all fun i => ((ops[i]?).map (·.after.toList.all fun e => !Region.binds .any e || decide (e.on < i))).getD true
def needsB (ops : Array Oper) : Nat -> Nat -> Nat -> Bool
 | 0,_,_ => false
 | f + 1,i,k => ((ops[i]?).map fun o => (o.after.toList.any fun e => Region.binds .any e && e.on == k) || (o.after.toList.any fun e => Region.binds .any e && needsB ops f e.on k)).getD false
def tailB (ops : Array Oper) (n : Nat) : Bool:=(List.range (ops.size - n)).all fun j => (List.range (n + j)).all fun k => needsB ops ops.size (n + j) k
section
variable {P : Program} {ops : Array Oper} {Q : Exit -> Act -> World -> Prop} {md : Region.Mode}
theorem ready_nil {listed : Array Bool} (h : Region.ready md ops listed = []) (i : Nat) (hi : i < ops.size)
  (he : ∀ o,ops[i]? = some o -> ∀ e ∈ o.after.toList,Region.binds md e = true -> listed.getD e.on false = true) : listed.getD i true = true:=by
 cases hl : listed.getD i true with
 | true => rfl
 | false =>
  exfalso;have hm : i ∈ Region.ready md ops listed:=by
   unfold Region.ready;refine List.mem_filter.2 ⟨List.mem_range.2 hi,?_⟩;have ho : ops[i]? = some ops[i]:=Array.getElem?_eq_getElem hi;rw [ho];simp only [Option.map_some,Option.getD_some,xc,hl,Bool.not_false,true_and];refine Array.all_eq_true_iff_forall_mem.2 fun e hh => ?_
   cases hb : Region.binds md e with
   | false => simp
   | true => rw [he _ ho e (Array.mem_toList_iff.2 hh) hb];simp
  rw [h] at hm;cases hm
theorem all_listed {listed : Array Bool} (h : Region.ready .any ops listed = []) (hs : listed.size = ops.size) (hw : aheadB ops = true) : ∀ i,i < ops.size -> listed.getD i true = true:=by
 intro i;induction i using Nat.strongRecOn with
 | _ i ih =>
  intro hi;refine ready_nil h i hi fun o ho e hh hb => ?_
  have h1:=List.all_eq_true.1 hw i (List.mem_range.2 hi);rw [ho] at h1;simp only [Option.map_some,Option.getD_some] at h1;have h2:=List.all_eq_true.1 h1 e hh;rw [hb] at h2;have h2:=of_decide_eq_true (by simpa using h2);have h3:=ih e.on h2 (by omega);have h4 : e.on < listed.size:=by omega
  simp only [Array.getD_eq_getD_getElem?,Array.getElem?_eq_getElem h4,Option.getD_some] at h3 ⊢;exact h3
def closedL (ops : Array Oper) (listed : Array Bool) : Prop:=∀ i,i < ops.size -> listed.getD i false = true -> ∀ o,ops[i]? = some o -> ∀ e ∈ o.after.toList,Region.binds .any e = true -> listed.getD e.on false = true
theorem needs_listed {listed : Array Bool} (hc : closedL ops listed) (hw : aheadB ops = true) : ∀ (f i k : Nat),i < ops.size -> needsB ops f i k = true ->
  (∀ o,ops[i]? = some o -> ∀ e ∈ o.after.toList,Region.binds .any e = true -> listed.getD e.on false = true) -> listed.getD k false = true
 | 0,_,_,_,h,_ => by cases h
 | f + 1,i,k,hi,h,he => by
  have ho : ops[i]? = some ops[i]:=Array.getElem?_eq_getElem hi;unfold needsB at h;rw [ho] at h;simp only [Option.map_some,Option.getD_some,Bool.or_eq_true] at h;rcases h with h | h
  ·obtain ⟨e,h1,h2⟩:=List.any_eq_true.1 h;rw [xc] at h2;have:=he _ ho e h1 h2.1;rwa [beq_iff_eq.1 h2.2] at this
  ·obtain ⟨e,h1,h2⟩:=List.any_eq_true.1 h;rw [xc] at h2;have h3:=he _ ho e h1 h2.1;have h4:=List.all_eq_true.1 hw i (List.mem_range.2 hi);rw [ho] at h4;simp only [Option.map_some,Option.getD_some] at h4;have h5:=List.all_eq_true.1 h4 e h1;rw [h2.1] at h5;have h5:=of_decide_eq_true (by simpa using h5);exact needs_listed hc hw f e.on k (by omega) h2.2 (hc e.on (by omega) h3)
theorem tail_needs {n : Nat} (hl : tailB ops n = true) {m k : Nat} (hn : n <= m) (hm : m < ops.size) (hk : k < m) : needsB ops ops.size m k = true:=by
 have h1:=List.all_eq_true.1 hl (m - n) (List.mem_range.2 (by omega));rw [show n + (m - n) = m by omega] at h1;exact List.all_eq_true.1 h1 k (List.mem_range.2 hk)
theorem getD_any {listed : Array Bool} {k : Nat} {c : Bool} (d : Bool) (hk : k < listed.size) (h : listed.getD k c = true) : listed.getD k d = true:=by
 simp only [Array.getD_eq_getD_getElem?,Array.getElem?_eq_getElem hk,Option.getD_some] at h ⊢;exact h
theorem getD_set {listed : Array Bool} {i k : Nat} (c : Bool) (hi : i < listed.size) : (listed.setIfInBounds i true).getD k c = if i = k then true else listed.getD k c:=by
 simp only [Array.getD_eq_getD_getElem?,Array.getElem?_setIfInBounds];split
 ·rename_i h;subst h;simp
 ·rfl
theorem closed_set {listed : Array Bool} {i : Nat} (hs : listed.size = ops.size) (hc : closedL ops listed) (hi : i < ops.size)
  (he : ∀ o,ops[i]? = some o -> ∀ e ∈ o.after.toList,Region.binds .any e = true -> listed.getD e.on false = true) : closedL ops (listed.setIfInBounds i true):=by
 intro j hj hl o ho e h1 h2;rw [getD_set _ (by omega)] at hl ⊢;split
 ·rfl
 ·split at hl
  ·rename_i h;subst h;exact he o ho e h1 h2
  ·exact hc j hj hl o ho e h1 h2
theorem tail_any {l : List Oper} {a : Act} {w : World} (D : Act -> World -> Prop) (hD : ∀ a w,D a w -> Q .normal a w) (h : ∀ QQ : Exit -> Act -> World -> Prop,(∀ a w,D a w -> QQ .normal a w) -> wpList P ops QQ l a w) : wpList P ops Q l a w:=h Q hD
theorem wp_region_tail {id : Nat} {a : Act} {w : World} (n : Nat) (hm : P.follows .mixedOrders = true) (J : Array Bool -> Act -> World -> Prop)
  (hn : n < ops.size) (hw : aheadB ops = true) (hl : tailB ops n = true)
  (h0 : J (Array.replicate ops.size false) a { w with drawn:=w.drawn + 1 })
  (hJ : ∀ listed a w,J listed a w -> listed.size = ops.size /\ ∀ k,n <= k -> k < ops.size -> listed.getD k true = false)
  (hstep : ∀ listed a w i,J listed a w -> i < n -> listed.getD i true = false -> (∀ o,ops[i]? = some o -> ∀ e ∈ o.after.toList,Region.binds .any e = true -> listed.getD e.on false = true) -> wpOp P ops Q i (J (listed.setIfInBounds i true)) a w)
  (htail : ∀ listed a w,J listed a w -> (∀ i,i < n -> listed.getD i true = true) -> wpList P ops Q (ops.toList.drop n) a w) : (Code.region id ops true).wp P Q a w:=by
 have hrun : ∀ listed a w,J listed a w -> (∀ i,i < n -> listed.getD i true = true) -> wpOps P ops Q (List.range' n (ops.size - n)) a w:=by
  intro listed a w h h2;have:=wpOps_eq_wpList (P:=P) (ops:=ops) (Q:=Q) (ops.toList.drop n) n (by intro j;simp);rw [List.length_drop,Array.length_toList] at this;rw [this];exact htail listed a w h h2
 refine wp_region_inv hm (fun listed a w => closedL ops listed /\ listed.size = ops.size /\ (J listed a w ∨ ∃ m,n <= m /\ m <= ops.size /\ (∀ k,k < ops.size -> listed.getD k true = decide (k < m)) /\ wpOps P ops Q (List.range' m (ops.size - m)) a w)) ?_ ?_ ?_
 ·refine ⟨?_,by simp,.inl h0⟩;intro i hi hl2;exfalso;rw [Array.getD_eq_getD_getElem?,Array.getElem?_eq_getElem (by simpa using hi)] at hl2;simp at hl2
 ·rintro listed a x i ⟨hc,hs,h⟩ hi;obtain ⟨h1,h2,h3⟩:=ready_spec hi;have hc':=closed_set hs hc h1 h3;have hs' : (listed.setIfInBounds i true).size = ops.size:=by simpa using hs
  -- an operation of the tail comes up behind all ahead of it
  have hbehind : n <= i -> ∀ k,k < i -> listed.getD k true = true:=fun hge k hk => getD_any true (by omega) (needs_listed hc hw ops.size i k h1 (tail_needs hl hge h1 hk) h3)
  have hone : ∀ m,n <= m -> m < ops.size -> (∀ k,k < ops.size -> listed.getD k true = decide (k < m)) -> i = m:=by
   intro m hm1 hm2 hlst;have h4:=hlst i h1;rw [h2] at h4;have h5 : m <= i:=by have:=(decide_eq_false_iff_not.1 h4.symm);omega
   rcases Nat.lt_or_ge m i with h6 | h6
   ·have h7:=hbehind (by omega) m h6;rw [hlst m hm2] at h7;exact absurd (of_decide_eq_true h7) (Nat.lt_irrefl _)
   ·omega
  have hnext : ∀ m,i = m -> m < ops.size -> (∀ k,k < ops.size -> listed.getD k true = decide (k < m)) -> ∀ k,k < ops.size -> (listed.setIfInBounds i true).getD k true = decide (k < m + 1):=by
   intro m him hm2 hlst k hk;rw [getD_set _ (by omega)];split
   ·rename_i h;subst h;subst him;simp
   ·rename_i hne
    rw [hlst k hk];have : (k < m) ↔ (k < m + 1):=by omega
    simp [this]
  rcases h with h | ⟨m,hm1,hm2,hlst,hrest⟩
  ·rcases Nat.lt_or_ge i n with hlt | hge
   ·exact wpOp_mono (fun _ _ h => ⟨hc',hs',.inl h⟩) (hstep listed a x i h hlt h2 h3)
   ·have hlst : ∀ k,k < ops.size -> listed.getD k true = decide (k < n):=by
     intro k hk;rcases Nat.lt_or_ge k n with hk2 | hk2
     ·rw [hbehind hge k (by omega)];simp [hk2]
     ·rw [(hJ _ _ _ h).2 k hk2 hk];simp;omega
    have hin:=hone n (xf _) hn hlst;have hr:=hrun listed a x h (fun k hk => by rw [hlst k (by omega)];simp [hk]);rw [show ops.size - n = (ops.size - (n + 1)) + 1 by omega,List.range'_succ,wpOps_cons] at hr;rw [hin] at hnext hc' hs' ⊢;exact wpOp_mono (fun _ _ h => ⟨hc',hs',.inr ⟨n + 1,by omega,by omega,hnext n rfl hn hlst,h⟩⟩) hr
  ·have hm3 : m < ops.size:=by
    rcases Nat.lt_or_ge m ops.size with h | h
    ·exact h
    ·have:=hlst i h1;rw [h2] at this;have:=decide_eq_false_iff_not.1 this.symm;omega
   have him:=hone m hm1 hm3 hlst;rw [show ops.size - m = (ops.size - (m + 1)) + 1 by omega,List.range'_succ,wpOps_cons] at hrest;rw [him] at hnext hc' hs' ⊢;exact wpOp_mono (fun _ _ h => ⟨hc',hs',.inr ⟨m + 1,by omega,by omega,hnext m rfl hm3 hlst,h⟩⟩) hrest
 ·rintro listed a x ⟨-,hs,h⟩ hr;have hall:=all_listed hr hs hw;rcases h with h | ⟨m,hm1,hm2,hlst,hrest⟩
  ·have h1:=(hJ _ _ _ h).2 n (xf _) hn;rw [hall n hn] at h1;cases h1
  ·have hm3 : m = ops.size:=by
    rcases Nat.lt_or_ge m ops.size with h | h
    ·have h1:=hall m h;rw [hlst m h] at h1;exact absurd (of_decide_eq_true h1) (Nat.lt_irrefl _)
    ·omega
   subst hm3;simpa [wpOps] using hrest
end
def Kept (B : Nat) (w w' : World) : Prop:=∀ g cs ty,B <= g -> Blk g cs ty w -> Blk g cs ty w'
theorem Kept.alloc (B : Nat) (w : World) (o : Obj) : Kept B w (w.alloc o):=fun _ _ _ _ h => h.alloc o
theorem Kept.only {b B : Nat} {w w' : World} (h : Only b w w') (hb : b < B) : Kept B w w':=fun _ _ _ hg hk => hk.only h (by omega)
theorem Kept.but {b B : Nat} {w w' : World} (h : But b w.heap.size w w') (hb : b < B) : Kept B w w':=fun _ _ _ hg hk => hk.but h (by omega)
structure Sofar (b : Nat) (w w' : World) : Prop where
 but : But b w.heap.size w w'
 dice : Dice b w'
theorem dice_draw {b : Nat} {w : World} (h : Dice b w) : Dice b w.drew:=h.kept h.lt (below_drw (Below.refl _ w))
theorem but_draw {b B : Nat} {w w1 : World} (h : But b B w w1) : But b B w w1.drew:=h.trans (But.of_below (below_drw (Below.refl _ w1)))
theorem Sofar.start {b : Nat} {w : World} (h : Dice b w) : Sofar b w w.drew:=⟨but_draw (But.refl b _ w),dice_draw h⟩
theorem Sofar.alloc {b : Nat} {w w' : World} (h : Sofar b w w') (o : Obj) : Sofar b w (w'.alloc o):=⟨but_alloc h.but h.but.size o,dice_alloc h.dice o⟩
theorem Sofar.only {b : Nat} {w w' w'' : World} (h : Sofar b w w') (hd : Dice b w'') (ho : Only b w' w'') : Sofar b w w'':=⟨but_only h.but ho,hd⟩
theorem Sofar.then {b : Nat} {w w' w'' : World} (h : Sofar b w w') (hd : Dice b w'') (ho : But b w'.heap.size w' w'') : Sofar b w w'':=⟨but_then h.but ho h.but.size,hd⟩
theorem Sofar.set {b g : Nat} {w w' : World} (h : Sofar b w w') (hg : w.heap.size <= g) (hb : b < g) (i : Nat) (u : Value) : Sofar b w (w'.setCell ⟨g,i,none⟩ u):=⟨but_set h.but hg,dice_set h.dice hb⟩
theorem Sofar.blk {b g : Nat} {w w' : World} {cs : Array Value} {ty : TypeId} (h : Sofar b w w') (hk : Blk g cs ty w) (hg : g ≠ b) : Blk g cs ty w':=hk.but h.but hg
theorem Blk.new' {g : Nat} (w : World) (cs : Array Value) (ty : TypeId) (h : g = w.heap.size) : Blk g cs ty (w.alloc (.cells cs ty)):=by subst h;exact Blk.new w cs ty
theorem row_kept {w w' : World} {B k : Nat} {e : TypeId} {v : Value} {n : Nat} {xs : List Value} (h : w.ownsRow B e k v n xs) (hk : Kept B w w') : w'.ownsRow B e k v n xs:=by
 refine ⟨h.1,?_⟩;rcases h.2 with h1 | ⟨g,cap,cur,r1,r2,r3,r4⟩
 ·exact .inl h1
 ·exact .inr ⟨g,cap,cur,r1,r2,hk g _ _ r2 r3,r4⟩
theorem evCells_one (e : Ev) (p p' : Option Addr) (n n' c c' : Nat) : ∀ u ∈ (evCells e (.slice p n c) (.slice p' n' c')).toList,u.oneCell' = true:=by
 intro u hu;simp only [evCells,xm,List.not_mem_nil,or_false] at hu;rcases hu with rfl | rfl | rfl | rfl | rfl | rfl | rfl | rfl | rfl | rfl | rfl | rfl | rfl <;> rfl
theorem infoEv : (Tryz.prog.info? 104).map (fun i => (i.zero,i.size,i.bytes)) = some (some (.agg #[.string ⟨#[]⟩,.int .i64 0,.bool false,.int .i64 0,.int .i64 0,.int .i64 0,.int .i64 0,.slice none 0 0,.slice none 0 0,.int .i64 0,.int .i64 0,.string ⟨#[]⟩,.string ⟨#[]⟩]),13,160):=by kernel_rfl
theorem one_byte_blk {w : World} {g : Nat} {c : UInt8} (h : Blk g #[.int .u8 c.toNat] 5 w) : (convert 145 9 (.slice (some ⟨g,0,none⟩) 1 1)).run Tryz.prog w = .ok (.string ⟨#[c]⟩) w :=
 string_of_row (B:=0) (l:=[c]) ⟨rfl,.inr ⟨g,1,_,rfl,xe _,h,xf _,by decide,rfl,rfl⟩⟩
theorem byte_of (m : Int) (h0 : 0 <= m) (h1 : m < 256) : m = ((UInt8.ofNat m.toNat).toNat : Int):=by
 rw [UInt8.toNat_ofNat_of_lt' (show m.toNat < UInt8.size by show m.toNat < 256;omega)];omega
theorem blk_cells {w : World} {g : Nat} {cs : Array Value} {ty : TypeId} (h : Blk g cs ty w) (j : Nat) (u : Value) (hj : cs.toList[j]? = some u) : w.cell? ((⟨g,0,none⟩ : Addr).add j) = some u:=by
 rw [Addr.add_lit,h.cell];simpa using hj
structure Made (w w' : World) : Prop where
 below : Below w.heap.size w w'
theorem Made.start (w : World) : Made w w.drew:=⟨below_drw (Below.refl _ w)⟩
theorem Made.then {w w1 w2 : World} (h : Made w w1) (k : Below w1.heap.size w1 w2) : Made w w2:=⟨below_then h.below k⟩
theorem Made.alloc {w w1 : World} (h : Made w w1) (o : Obj) : Made w (w1.alloc o):=h.then (below_box _ _)
theorem Made.blk {w w1 : World} (h : Made w w1) {g : Nat} {cs : Array Value} {ty : TypeId} (k : Blk g cs ty w) : Blk g cs ty w1:=k.below h.below k.lt
theorem row_made {w w' : World} {B k : Nat} {e : TypeId} {v : Value} {n : Nat} {xs : List Value} (h : w.ownsRow B e k v n xs) (hb : Below w.heap.size w w') : w'.ownsRow B e k v n xs:=by
 refine ⟨h.1,?_⟩;rcases h.2 with h1 | ⟨g,cap,cur,r1,r2,r3,r4⟩
 ·exact .inl h1
 ·exact .inr ⟨g,cap,cur,r1,r2,(hb.block g (xg.1 r3).1).trans r3,r4⟩
theorem Kept.made {B : Nat} {w w' : World} (h : Below w.heap.size w w') : Kept B w w':=fun _ _ _ _ hk => hk.below h hk.lt
theorem fillEv {g : Nat} {w : World} {x0 x1 x2 x3 x4 x5 x6 x7 x8 x9 x10 x11 x12 : Value} (h : Blk g #[x0,x1,x2,x3,x4,x5,x6,x7,x8,x9,x10,x11,x12] 104 w) (e : Ev) (v v' : Value) :
  ∃ W,W = ((((((((((((w.setCell ⟨g,0,none⟩ (.string e.uid)).setCell ⟨g,1,none⟩ (.int .i64 e.seq)).setCell ⟨g,2,none⟩ (.bool e.canc)).setCell ⟨g,3,none⟩ (.int .i64 e.days.first)).setCell ⟨g,4,none⟩ (.int .i64 e.days.last)).setCell ⟨g,5,none⟩ (.int .i64 e.days.every)).setCell ⟨g,6,none⟩ (.int .i64 e.days.wd)).setCell ⟨g,7,none⟩ v).setCell ⟨g,8,none⟩ v').setCell ⟨g,9,none⟩ (.int .i64 e.start)).setCell ⟨g,10,none⟩ (.int .i64 e.mins)).setCell ⟨g,11,none⟩ (.string e.summ)).setCell ⟨g,12,none⟩ (.string e.loc) /\
   Blk g (evCells e v v') 104 W /\ (∀ lo v xs,RowI lo w v xs -> RowI lo W v xs) /\ (∀ B w0,B <= g -> Below B w0 w -> Below B w0 W) :=
 ⟨setAll w g 0 (evCells e v v').toList,rfl,Blk.puts (evCells e v v').toList [] [x0,x1,x2,x3,x4,x5,x6,x7,x8,x9,x10,x11,x12] [] w h rfl,fun _ _ _ hx => row_setAll (by decide) _ 0 w _ hx h,fun _ _ hB hb => below_setAll hB _ 0 w hb⟩
def toldV (old now : Bool) : Int:=if now && old then 0 else if now then 3 else if old then 1 else 2
theorem told83 (o n : Ev) (p1 p2 p3 p4 : Option Addr) (n1 n2 n3 n4 c1 c2 c3 c4 : Nat) (w : World) :
  Calls Tryz.prog 170 #[evVal o (.slice p1 n1 c1) (.slice p2 n2 c2),evVal n (.slice p3 n3 c3) (.slice p4 n4 c4)] w fun e w' => e = .returned (.int .i64 (toldV o.canc n.canc)) /\ Below w.heap.size w w':=by
 obtain ⟨u,s,oc,d,st,mi,su,lo⟩:=o;obtain ⟨u',s',nc,d',st',mi',su',lo'⟩:=n;unfold evVal evCells;cases oc <;> cases nc
 all_goals
  go_enter Tryz.func170,Tryz.ntmps170;go_wp2_with fail;go_ret;exact ⟨rfl,(below_box _ _).trans ((below_box _ _).mono (by simp))⟩
def findFrom (u : ByteArray) : List Ev -> Int -> Int
 | [],_ => -1
 | e :: r,k => if e.uid = u then k else findFrom u r (k + 1)
theorem list_parts {xs ys : List Int} {n : Nat} (hx : xs.length = n) (hy : ys.length = n) (h : ∀ j,j < n -> xs[j]? = ys[j]?) : xs = ys:=by
 apply List.ext_getElem?
 intro j;rcases Nat.lt_or_ge j n with hj | hj
 ·exact h j hj
 ·rw [xb (by omega),xb (by omega)]
theorem sameser142 (s t : Tt.Ser) (B : Nat) (w : World) (p1 p2 p3 p4 : Option Addr) (c1 c2 c3 c4 : Nat) (hB : B <= w.heap.size) (hI1 : Ints B w p1 s.ex) (hI2 : Ints B w p2 s.xt) (hI3 : Ints B w p3 t.ex) (hI4 : Ints B w p4 t.xt) (hn1 : s.ex.length <= 4611686018427387903) (hn2 : s.xt.length <= 4611686018427387903) :
  Calls Tryz.prog 85 #[serVal s (.slice p1 s.ex.length c1) (.slice p2 s.xt.length c2),serVal t (.slice p3 t.ex.length c3) (.slice p4 t.xt.length c4)] w fun e w' => e = .returned (.bool (decide (s = t))) /\ Below w.heap.size w w':=by
 obtain ⟨f,l,e,m,ex,xt⟩:=s;obtain ⟨f',l',e',m',ex',xt'⟩:=t;simp only at *;have HI1:=Lh hI1;have HI2:=Lh hI2;have HI3:=Lh hI3;have HI4:=Lh hI4;clear hI1 hI2 hI3 hI4;unfold serVal;by_cases hq : f = f' /\ l = l' /\ e = e' /\ m = m' /\ ex.length = ex'.length /\ xt.length = xt'.length
 ·obtain ⟨rfl,rfl,rfl,rfl,hl1,hl2⟩:=hq;rw [<- hl1,<- hl2];obtain ⟨n,hn⟩ : ∃ n,n = ex.length:=⟨_,rfl⟩
  obtain ⟨o,ho⟩ : ∃ o,o = xt.length:=⟨_,rfl⟩
  rw [<- hn] at hn1 hl1 ⊢;rw [<- ho] at hn2 hl2 ⊢;have HN:=Lh hn;have HO:=Lh ho;have HL1:=Lh hl1;have HL2:=Lh hl2;clear hn ho hl1 hl2;have S0 : SerAt w.heap.size ⟨f,l,e,m,ex,xt⟩ (.slice p1 n c1) (.slice p2 o c2) (w.alloc (.cells #[.int .i64 f,.int .i64 l,.int .i64 e,.int .i64 m,.slice p1 n c1,.slice p2 o c2] 102)):=heap_alloc_new w _;have T0 : SerAt (w.heap.size + 1) ⟨f,l,e,m,ex',xt'⟩ (.slice p3 n c3) (.slice p4 o c4) ((w.alloc (.cells #[.int .i64 f,.int .i64 l,.int .i64 e,.int .i64 m,.slice p1 n c1,.slice p2 o c2] 102)).alloc (.cells #[.int .i64 f,.int .i64 l,.int .i64 e,.int .i64 m,.slice p3 n c3,.slice p4 o c4] 102)):=by
   have:=heap_alloc_new (w.alloc (.cells #[.int .i64 f,.int .i64 l,.int .i64 e,.int .i64 m,.slice p1 n c1,.slice p2 o c2] 102)) (.cells #[.int .i64 f,.int .i64 l,.int .i64 e,.int .i64 m,.slice p3 n c3,.slice p4 o c4] 102);simpa [SerAt] using this
  have HB:=Lh ((below_box w (.cells #[.int .i64 f,.int .i64 l,.int .i64 e,.int .i64 m,.slice p1 n c1,.slice p2 o c2] 102)).alloc (by simp) (.cells #[.int .i64 f,.int .i64 l,.int .i64 e,.int .i64 m,.slice p3 n c3,.slice p4 o c4] 102));have HS:=Lh (S0.block (w':=(w.alloc (.cells #[.int .i64 f,.int .i64 l,.int .i64 e,.int .i64 m,.slice p1 n c1,.slice p2 o c2] 102)).alloc (.cells #[.int .i64 f,.int .i64 l,.int .i64 e,.int .i64 m,.slice p3 n c3,.slice p4 o c4] 102)) ((below_box _ _).block _ (by simp)));have HT:=Lh T0;clear S0 T0;go_enter Tryz.func85,Tryz.ntmps85;go_wp2_with fail;go_loopw [5] (fun iv wr => ∃ k : Nat,iv = .int .i64 k /\ k <= n /\ Hid (Below w.heap.size w wr) /\ Hid (SerAt w.heap.size ⟨f,l,e,m,ex,xt⟩ (.slice p1 n c1) (.slice p2 o c2) wr) /\ Hid (SerAt (w.heap.size + 1) ⟨f,l,e,m,ex',xt'⟩ (.slice p3 n c3) (.slice p4 o c4) wr) /\ Hid (∀ j,j < k -> ex[j]? = ex'[j]?)) (fun iv _ => n - (intOf iv).toNat)
  case atStart => exact ⟨0,rfl,xe _,HB,HS,HT,Lh (fun j h => absurd h (Nat.not_lt_zero _))⟩
  case round =>
   obtain ⟨k,rfl,hk,HBr,HA,HA2,HE⟩:=hrel;obtain ⟨-, -, -, -,e4,e5⟩:=HA.out.cells;obtain ⟨-, -, -, -,f4,f5⟩:=HA2.out.cells;by_cases hlt : k < n
   ·have hx : k < ex.length:=by rw [<- HN.out];exact hlt
    have hy : k < ex'.length:=by rw [<- HL1.out];exact hlt
    obtain ⟨a,rfl,ha,hca⟩:=HI1.out k _ (xa hx);obtain ⟨a',rfl,ha',hcb⟩:=HI3.out k _ (xa hy);obtain ⟨x,hxe⟩ : ∃ x,x = ex[k]:=⟨_,rfl⟩
    obtain ⟨y,hye⟩ : ∃ y,y = ex'[k]:=⟨_,rfl⟩
    rw [<- hxe] at hca;rw [<- hye] at hcb;have HXE:=Lh hxe;have HYE:=Lh hye;clear hxe hye;have hca:=(HBr.out.cell (p:=a.add k) (by rw [addr_add_block];omega)).trans hca;have hcb:=(HBr.out.cell (p:=a'.add k) (by rw [addr_add_block];omega)).trans hcb;have hlt2 : (k : Int) < n:=by omega
    by_cases he : x = y
    ·have hb : (x != y) = false:=by simp [he]
     have HS2:=Lh (show ∀ j,j < k + 1 -> ex[j]? = ex'[j]? from by
      intro j hj;rcases Nat.lt_or_ge j k with h | h
      ·exact HE.out j h
      ·obtain rfl : j = k:=by omega
       rw [xa hx,xa hy,<- HXE.out,<- HYE.out,he])
     clear he;go_wp2_with fail;go_quiet (fail)
     go_wp2_with fail;go_roundw
     case rel => exact ⟨k + 1,by go_num,by omega,Lh (below_drew HBr.out),Lh (HA.out.block (by simp)),Lh (HA2.out.block (by simp)),HS2⟩
     case measure => simp [intOf];omega
    ·have hb : (x != y) = true:=by simp [he]
     have HD:=Lh (show decide ((⟨f,l,e,m,ex,xt⟩ : Tt.Ser) = ⟨f,l,e,m,ex',xt'⟩) = false from by
      rw [decide_eq_false_iff_not];intro h;injection h with a1 a2 a3 a4 a5 a6
      exact he (by rw [HXE.out,HYE.out];simp [a5]))
     clear he;go_wp2_with fail;go_quiet (fail)
     go_wp2_with fail;go_ret;exact ⟨ret_bool HD.out.symm,below_drew HBr.out⟩
   ·have hlt2 : ¬ (k : Int) < n:=by omega
    have HX:=Lh (show ex = ex' from list_parts HN.out.symm HL1.out.symm (fun j hj => HE.out j (by omega)));clear HE hk hlt;go_wp2_with fail;go_loopw [6] (fun iv wq => ∃ k : Nat,iv = .int .i64 k /\ k <= o /\ Hid (Below w.heap.size w wq) /\ Hid (SerAt w.heap.size ⟨f,l,e,m,ex,xt⟩ (.slice p1 n c1) (.slice p2 o c2) wq) /\ Hid (SerAt (w.heap.size + 1) ⟨f,l,e,m,ex',xt'⟩ (.slice p3 n c3) (.slice p4 o c4) wq) /\ Hid (∀ j,j < k -> xt[j]? = xt'[j]?)) (fun iv _ => o - (intOf iv).toNat)
    case atStart => exact ⟨0,rfl,xe _,HBr,HA,HA2,Lh (fun j h => absurd h (Nat.not_lt_zero _))⟩
    case round =>
     clear e4 e5 f4 f5;obtain ⟨k,rfl,hk,HBr,HA,HA2,HE⟩:=hrel;obtain ⟨-, -, -, -,e4,e5⟩:=HA.out.cells;obtain ⟨-, -, -, -,f4,f5⟩:=HA2.out.cells;by_cases hlt : k < o
     ·have hx : k < xt.length:=by rw [<- HO.out];exact hlt
      have hy : k < xt'.length:=by rw [<- HL2.out];exact hlt
      obtain ⟨a,rfl,ha,hca⟩:=HI2.out k _ (xa hx);obtain ⟨a',rfl,ha',hcb⟩:=HI4.out k _ (xa hy);obtain ⟨x,hxe⟩ : ∃ x,x = xt[k]:=⟨_,rfl⟩
      obtain ⟨y,hye⟩ : ∃ y,y = xt'[k]:=⟨_,rfl⟩
      rw [<- hxe] at hca;rw [<- hye] at hcb;have HXE:=Lh hxe;have HYE:=Lh hye;clear hxe hye;have hca:=(HBr.out.cell (p:=a.add k) (by rw [addr_add_block];omega)).trans hca;have hcb:=(HBr.out.cell (p:=a'.add k) (by rw [addr_add_block];omega)).trans hcb;have hlt2 : (k : Int) < o:=by omega
      by_cases he : x = y
      ·have hb : (x != y) = false:=by simp [he]
       have HS2:=Lh (show ∀ j,j < k + 1 -> xt[j]? = xt'[j]? from by
        intro j hj;rcases Nat.lt_or_ge j k with h | h
        ·exact HE.out j h
        ·obtain rfl : j = k:=by omega
         rw [xa hx,xa hy,<- HXE.out,<- HYE.out,he])
       clear he;go_wp2_with fail;go_quiet (fail)
       go_wp2_with fail;go_roundw
       case rel => exact ⟨k + 1,by go_num,by omega,Lh (below_drew HBr.out),Lh (HA.out.block (by simp)),Lh (HA2.out.block (by simp)),HS2⟩
       case measure => simp [intOf];omega
      ·have hb : (x != y) = true:=by simp [he]
       have HD:=Lh (show decide ((⟨f,l,e,m,ex,xt⟩ : Tt.Ser) = ⟨f,l,e,m,ex',xt'⟩) = false from by
        rw [decide_eq_false_iff_not];intro h;injection h with a1 a2 a3 a4 a5 a6
        exact he (by rw [HXE.out,HYE.out];simp [a6]))
       clear he;go_wp2_with fail;go_quiet (fail)
       go_wp2_with fail;go_ret;exact ⟨ret_bool HD.out.symm,below_drew HBr.out⟩
     ·have hlt2 : ¬ (k : Int) < o:=by omega
      have HY:=Lh (show xt = xt' from list_parts HO.out.symm HL2.out.symm (fun j hj => HE.out j (by omega)));have HD:=Lh (show decide ((⟨f,l,e,m,ex,xt⟩ : Tt.Ser) = ⟨f,l,e,m,ex',xt'⟩) = true from by rw [HX.out,HY.out];simp);go_wp2_with fail;go_ret;exact ⟨ret_bool (by simpa using HD.out.symm),HBr.out⟩
 ·have HD:=Lh (show decide ((⟨f,l,e,m,ex,xt⟩ : Tt.Ser) = ⟨f',l',e',m',ex',xt'⟩) = false from by
   rw [decide_eq_false_iff_not];intro h;injection h with a1 a2 a3 a4 a5 a6
   exact hq ⟨a1,a2,a3,a4,by rw [a5],by rw [a6]⟩)
  go_enter Tryz.func85,Tryz.ntmps85;go_wp2_with fail
  all_goals
   go_ret;exact ⟨ret_bool HD.out.symm,(below_box _ _).trans ((below_box _ _).mono (by simp))⟩
deriving instance DecidableEq for Ev
theorem text_ne {x y : ByteArray} (he : ¬ x = y) : (x.toList == y.toList) = false:=by
 rw [beq_eq_false_iff_ne];intro h;rw [Lib.toList_data,Lib.toList_data] at h;exact he (ByteArray.ext (Array.toList_inj.mp h))
theorem ev_ne {a b : Ev} (h : ¬ a = b) : decide (a = b) = false:=by simpa using h
theorem sameev71 (a b : Ev) (B : Nat) (w : World) (p1 p2 p3 p4 : Option Addr) (c1 c2 c3 c4 : Nat) (hB : B <= w.heap.size) (hI1 : Ints B w p1 a.days.ex) (hI2 : Ints B w p2 a.days.xt) (hI3 : Ints B w p3 b.days.ex) (hI4 : Ints B w p4 b.days.xt) (hn1 : a.days.ex.length <= 4611686018427387903) (hn2 : a.days.xt.length <= 4611686018427387903) :
  Calls Tryz.prog 41 #[evVal a (.slice p1 a.days.ex.length c1) (.slice p2 a.days.xt.length c2),evVal b (.slice p3 b.days.ex.length c3) (.slice p4 b.days.xt.length c4)] w fun e w' => e = .returned (.bool (decide (a = b))) /\ Below w.heap.size w w':=by
 have hbx:=(below_box w (.cells (evCells a (.slice p1 a.days.ex.length c1) (.slice p2 a.days.xt.length c2)) 104)).alloc (by simp) (.cells (evCells b (.slice p3 b.days.ex.length c3) (.slice p4 b.days.xt.length c4)) 104);have S0 : EvBox w.heap.size a (.slice p1 a.days.ex.length c1) (.slice p2 a.days.xt.length c2) (w.alloc (.cells (evCells a (.slice p1 a.days.ex.length c1) (.slice p2 a.days.xt.length c2)) 104)):=heap_alloc_new w _;have T0 : EvBox (w.heap.size + 1) b (.slice p3 b.days.ex.length c3) (.slice p4 b.days.xt.length c4) ((w.alloc (.cells (evCells a (.slice p1 a.days.ex.length c1) (.slice p2 a.days.xt.length c2)) 104)).alloc (.cells (evCells b (.slice p3 b.days.ex.length c3) (.slice p4 b.days.xt.length c4)) 104)):=by
  have:=heap_alloc_new (w.alloc (.cells (evCells a (.slice p1 a.days.ex.length c1) (.slice p2 a.days.xt.length c2)) 104)) (.cells (evCells b (.slice p3 b.days.ex.length c3) (.slice p4 b.days.xt.length c4)) 104);simpa [EvBox] using this
 have HS:=Lh (S0.block (w':=(w.alloc (.cells (evCells a (.slice p1 a.days.ex.length c1) (.slice p2 a.days.xt.length c2)) 104)).alloc (.cells (evCells b (.slice p3 b.days.ex.length c3) (.slice p4 b.days.xt.length c4)) 104)) ((below_box _ _).block _ (by simp)));have HT:=Lh T0;have HB:=Lh hbx;have HI1:=Lh (hI1.below (hbx.mono hB));have HI2:=Lh (hI2.below (hbx.mono hB));have HI3:=Lh (hI3.below (hbx.mono hB));have HI4:=Lh (hI4.below (hbx.mono hB));clear hI1 hI2 hI3 hI4 S0 T0 hbx;obtain ⟨u,s,oc,d,st,mi,su,lo⟩:=a;obtain ⟨u',s',nc,d',st',mi',su',lo'⟩:=b;unfold evCells at *;unfold evVal evCells;simp only at *;by_cases h1 : u = u'
 ·subst h1;by_cases h2 : s = s'
  ·subst h2;by_cases h3 : oc = nc
   ·subst h3;have hcc : (oc == oc) = true:=by simp
    go_enter Tryz.func41,Tryz.ntmps41;go_wp2_with fail;refine (sameser142 d d' B _ p1 p2 p3 p4 c1 c2 c3 c4 (by simp;omega) HI1.out HI2.out HI3.out HI4.out hn1 hn2).mono ?_;rintro e w1 ⟨rfl,hb1⟩;have HA1:=Lh (HS.out.block (hb1.block _ (by simp;omega)));have HA2:=Lh (HT.out.block (hb1.block _ (by simp)));have HB1:=Lh (HB.out.trans (hb1.mono (by simp;omega)));clear hb1;obtain ⟨-, -, -, -, -, -, -, -, -,c9,c10,c11,c12⟩:=HA1.out.c;obtain ⟨-, -, -, -, -, -, -, -, -,d9,d10,d11,d12⟩:=HA2.out.c;by_cases h4 : d = d'
    ·subst h4;have HD4:=Lh (show decide (d = d) = true from by simp);rw [HD4.out];by_cases h5 : st = st'
     ·subst h5;by_cases h6 : mi = mi'
      ·subst h6;by_cases h7 : su = su'
       ·subst h7;by_cases h8 : lo = lo'
        ·subst h8;have HD:=Lh (show decide ((⟨u,s,oc,d,st,mi,su,lo⟩ : Ev) = ⟨u,s,oc,d,st,mi,su,lo⟩) = true from by simp);go_wp2_with fail;go_ret;exact ⟨ret_bool (by simp),HB1.out⟩
        ·have HD:=Lh (ev_ne (a:=⟨u,s,oc,d,st,mi,su,lo⟩) (b:=⟨u,s,oc,d,st,mi,su,lo'⟩) (fun h => by injection h;exact h8 (by assumption)));have hb:=text_ne h8;clear h8;go_wp2_with fail;go_ret;exact ⟨ret_bool HD.out.symm,HB1.out⟩
       ·have HD:=Lh (ev_ne (a:=⟨u,s,oc,d,st,mi,su,lo⟩) (b:=⟨u,s,oc,d,st,mi,su',lo'⟩) (fun h => by injection h;exact h7 (by assumption)));have hb:=text_ne h7;clear h7;go_wp2_with fail;go_ret;exact ⟨ret_bool HD.out.symm,HB1.out⟩
      ·have HD:=Lh (ev_ne (a:=⟨u,s,oc,d,st,mi,su,lo⟩) (b:=⟨u,s,oc,d,st,mi',su',lo'⟩) (fun h => by injection h;exact h6 (by assumption)));have hb : (mi == mi') = false:=by simpa using h6
       go_wp2_with fail;go_ret;exact ⟨ret_bool HD.out.symm,HB1.out⟩
     ·have HD:=Lh (ev_ne (a:=⟨u,s,oc,d,st,mi,su,lo⟩) (b:=⟨u,s,oc,d,st',mi',su',lo'⟩) (fun h => by injection h;exact h5 (by assumption)));have hb : (st == st') = false:=by simpa using h5
      go_wp2_with fail;go_ret;exact ⟨ret_bool HD.out.symm,HB1.out⟩
    ·have HD:=Lh (ev_ne (a:=⟨u,s,oc,d,st,mi,su,lo⟩) (b:=⟨u,s,oc,d',st',mi',su',lo'⟩) (fun h => by injection h;exact h4 (by assumption)));have HD4:=Lh (show decide (d = d') = false from by simpa using h4);rw [HD4.out];clear h4;go_wp2_with fail;go_ret;exact ⟨ret_bool HD.out.symm,HB1.out⟩
   ·have HD:=Lh (ev_ne (a:=⟨u,s,oc,d,st,mi,su,lo⟩) (b:=⟨u,s,nc,d',st',mi',su',lo'⟩) (fun h => by injection h;exact h3 (by assumption)));have hb : (oc == nc) = false:=by simpa using h3
    go_enter Tryz.func41,Tryz.ntmps41;go_wp2_with fail;go_ret;exact ⟨ret_bool HD.out.symm,HB.out⟩
  ·have HD:=Lh (ev_ne (a:=⟨u,s,oc,d,st,mi,su,lo⟩) (b:=⟨u,s',nc,d',st',mi',su',lo'⟩) (fun h => by injection h;exact h2 (by assumption)));have hb : (s == s') = false:=by simpa using h2
   go_enter Tryz.func41,Tryz.ntmps41;go_wp2_with fail;go_ret;exact ⟨ret_bool HD.out.symm,HB.out⟩
 ·have HD:=Lh (ev_ne (a:=⟨u,s,oc,d,st,mi,su,lo⟩) (b:=⟨u',s',nc,d',st',mi',su',lo'⟩) (fun h => by injection h;exact h1 (by assumption)));have hb:=text_ne h1;clear h1;go_enter Tryz.func41,Tryz.ntmps41;go_wp2_with fail;go_ret;exact ⟨ret_bool HD.out.symm,HB.out⟩
theorem list_parts2 {α : Type} {xs ys : List α} {n : Nat} (hx : xs.length = n) (hy : ys.length = n) (h : ∀ j,j < n -> xs[j]? = ys[j]?) : xs = ys:=by
 apply List.ext_getElem?
 intro j;rcases Nat.lt_or_ge j n with hj | hj
 ·exact h j hj
 ·rw [xb (by omega),xb (by omega)]
theorem sameevs65 (xs ys : List Ev) (ao bo : Option Addr) (c d : Nat) (B : Nat) (w : World) (hB : B <= w.heap.size) (hX : Evs B w ao xs) (hY : Evs B w bo ys) (hn : xs.length <= 4611686018427387903) :
  Calls Tryz.prog 31 #[.slice ao xs.length c,.slice bo ys.length d] w fun e w' => e = .returned (.bool (decide (xs = ys))) /\ Below w.heap.size w w':=by
 by_cases hl : xs.length = ys.length
 ·have HX:=Lh hX;have HY:=Lh hY;clear hX hY;obtain ⟨n,hn1⟩ : ∃ n,n = xs.length:=⟨_,rfl⟩
  rw [<- hl];rw [<- hn1] at hn hl ⊢;have HN:=Lh hn1;have HL:=Lh hl;clear hn1 hl;go_enter Tryz.func31,Tryz.ntmps31;go_wp2_with fail;go_loopw [5] (fun iv wr => ∃ k : Nat,k <= n /\ iv = .int .i64 k /\ Hid (Below w.heap.size w wr) /\ Hid (∀ j,j < k -> xs[j]? = ys[j]?)) (fun iv _ => n - (intOf iv).toNat)
  case atStart => exact ⟨0,xe _,rfl,Lh (Below.refl _ _),Lh (fun j h => absurd h (Nat.not_lt_zero _))⟩
  case round =>
   obtain ⟨k,hk,rfl,HBr,HE⟩:=hrel;by_cases hlt : k < n
   ·have hx : k < xs.length:=by rw [<- HN.out];exact hlt
    have hy : k < ys.length:=by rw [<- HL.out];exact hlt
    have hlti : (k : Int) < n:=by omega
    rcases HX.out with h | ⟨g,o,rfl,hg,hcx⟩
    ·rw [h] at hx;simp at hx
    rcases HY.out with h | ⟨g',o',rfl,hg',hcy⟩
    ·rw [h] at hy;simp at hy
    obtain ⟨hEa,_,_,hCa,⟨ax,cx,rfl,hI1⟩,⟨ay,cy,rfl,hI2⟩⟩:=hcx k _ (xa hx);obtain ⟨hEb,_,_,hCb,⟨bx,dx,rfl,hI3⟩,⟨bY,dy,rfl,hI4⟩⟩:=hcy k _ (xa hy);obtain ⟨x,hxe⟩ : ∃ x,x = xs[k]:=⟨_,rfl⟩
    obtain ⟨y,hye⟩ : ∃ y,y = ys[k]:=⟨_,rfl⟩
    rw [<- hxe] at hEa hCa hI1 hI2;rw [<- hye] at hEb hCb hI3 hI4;have HXE:=Lh hxe;have HYE:=Lh hye;have HI1:=Lh (hI1.below (HBr.out.mono hB));have HI2:=Lh (hI2.below (HBr.out.mono hB));have HI3:=Lh (hI3.below (HBr.out.mono hB));have HI4:=Lh (hI4.below (HBr.out.mono hB));have HEa:=Lh hEa;have hsz:=HBr.out.size;have hCa':=hCa.below hg (HBr.out.mono hB);have hCb':=hCb.below hg' (HBr.out.mono hB);clear hxe hye hcx hcy hEa hEb hCa hCb hI1 hI2 hI3 hI4;obtain ⟨c0,c1,c2,c3,c4,c5,c6,c7,c8,c9,c10,c11,c12⟩:=hCa';obtain ⟨d0,d1,d2,d3,d4,d5,d6,d7,d8,d9,d10,d11,d12⟩:=hCb';go_wp2_with fail;go_still_tail 8,(by kernel_rfl)
    change wpList _ _ _ _ _ wr.drew;go_wp2_with fail;refine (sameev71 x y B _ ax ay bx bY cx cy dx dy (xo hB HBr.out.drew.size) HI1.out HI2.out HI3.out HI4.out HEa.out.ex HEa.out.xt).mono ?_;rintro z w1 ⟨rfl,hb1⟩;have HB1:=Lh (below_then HBr.out.drew hb1);clear hb1;by_cases he : x = y
    ·have HS2:=Lh (show ∀ j,j < k + 1 -> xs[j]? = ys[j]? from by
      intro j hj;rcases Nat.lt_or_ge j k with h | h
      ·exact HE.out j h
      ·obtain rfl : j = k:=by omega
       rw [xa hx,xa hy,<- HXE.out,<- HYE.out,he])
     have HD:=Lh (show decide (x = y) = true from by simpa using he);rw [HD.out];clear he;go_wp2_with fail;go_roundw
     case rel => exact ⟨k + 1,by omega,by go_num,HB1,HS2⟩
     case measure => simp [intOf];omega
    ·have HD:=Lh (show decide (x = y) = false from by simpa using he);have HR:=Lh (show decide (xs = ys) = false from by
      rw [decide_eq_false_iff_not];intro e;exact he (by rw [HXE.out,HYE.out];simp [e]))
     rw [HD.out];clear he;go_wp2_with fail;go_ret;exact ⟨ret_bool HR.out.symm,HB1.out⟩
   ·have hlti : ¬ (k : Int) < n:=by omega
    have HD:=Lh (show decide (xs = ys) = true from by
     rw [decide_eq_true_iff];exact list_parts2 HN.out.symm HL.out.symm (fun j hj => HE.out j (by omega)))
    go_wp2_with fail;go_ret;exact ⟨ret_bool HD.out.symm,HBr.out⟩
 ·have HD:=Lh (show decide (xs = ys) = false from by
   rw [decide_eq_false_iff_not];intro e;exact hl (by rw [e]))
  have hb : ((xs.length : Int) != ys.length) = true:=by simp;omega
  go_enter Tryz.func31,Tryz.ntmps31;go_wp2_with fail;go_ret;exact ⟨ret_bool HD.out.symm,Below.refl _ _⟩
theorem samerd28 (x y x' y' : Int) (xs ys : List Ev) (ao bo : Option Addr) (c d : Nat) (B : Nat) (w : World) (hB : B <= w.heap.size) (hX : Evs B w ao xs) (hY : Evs B w bo ys) (hn : xs.length <= 4611686018427387903) :
  Calls Tryz.prog 34 #[.agg #[.int .i64 x,.int .i64 y,.slice ao xs.length c],.agg #[.int .i64 x',.int .i64 y',.slice bo ys.length d]] w fun e w' => e = .returned (.bool (decide (x = x' /\ y = y' /\ xs = ys))) /\ Below w.heap.size w w':=by
 have hbx:=(below_box w (.cells #[.int .i64 x,.int .i64 y,.slice ao xs.length c] 66)).alloc (by simp) (.cells #[.int .i64 x',.int .i64 y',.slice bo ys.length d] 66);have HB:=Lh hbx;have HX:=Lh (hX.below (hbx.mono hB));have HY:=Lh (hY.below (hbx.mono hB));clear hX hY hbx;by_cases h1 : x = x'
 ·subst h1;by_cases h2 : y = y'
  ·subst h2;go_enter Tryz.func34,Tryz.ntmps34;go_wp2_with fail;refine (sameevs65 xs ys ao bo c d B _ (by simp;omega) HX.out HY.out hn).mono ?_;rintro e w1 ⟨rfl,hb1⟩;have HB1:=Lh (HB.out.trans (hb1.mono (by simp;omega)));clear hb1;go_wp2_with fail;go_ret;exact ⟨ret_bool (by simp),HB1.out⟩
  ·have hb : (y == y') = false:=by simpa using h2
   have HD:=Lh (show decide (x = x /\ y = y' /\ xs = ys) = false from by simp [h2]);go_enter Tryz.func34,Tryz.ntmps34;go_wp2_with fail;go_ret;exact ⟨ret_bool (by first | rfl | exact HD.out.symm),HB.out⟩
 ·have hb : (x == x') = false:=by simpa using h1
  have HD:=Lh (show decide (x = x' /\ y = y' /\ xs = ys) = false from by simp [h1]);go_enter Tryz.func34,Tryz.ntmps34;go_wp2_with fail;go_ret;exact ⟨ret_bool HD.out.symm,HB.out⟩
structure Nt where
 kind : Int
 uid : ByteArray
 seq : Int
 deriving DecidableEq
def Nts (B : Nat) (w : World) (ao : Option Addr) (ns : List Nt) : Prop:=ns = [] ∨ ∃ b o,ao = some ⟨b,o,none⟩ /\ b < B /\ ∀ (j : Nat) (n : Nt),ns[j]? = some n -> w.cell? ⟨b,o + j * 3,none⟩ = some (.int .i64 n.kind) /\ w.cell? ⟨b,o + j * 3 + 1,none⟩ = some (.string n.uid) /\ w.cell? ⟨b,o + j * 3 + 2,none⟩ = some (.int .i64 n.seq)
def rdOk (v : Int) (es : List Ev) : Bool:=!decide (v < 0 ∨ 64 < v) && !decide (256 < (es.length : Int)) && decide (evsV v none es = 0)
theorem feed_rd (n : ByteArray) (v : Int) (es : List Ev) (hc : Tt.code n.data.toList = true) : decide (feedV n v es = 0) = rdOk v es:=by
 unfold feedV rdOk;rw [if_neg (by rw [hc];simp)];by_cases h1 : v < 0 ∨ 64 < v
 ·rw [if_pos h1];simp [h1]
 ·rw [if_neg h1];by_cases h2 : 256 < (es.length : Int)
  ·rw [if_pos h2];simp [h2]
  ·rw [if_neg h2];simp [h1,h2]
theorem valid24 (v s : Int) (es : List Ev) (ao : Option Addr) (c : Nat) (B : Nat) (w : World) (hB : B <= w.heap.size) (hE : Evs B w ao es) (hn : es.length <= 4611686018427387903) :
  Calls Tryz.prog 54 #[.agg #[.int .i64 v,.int .i64 s,.slice ao es.length c]] w fun e w' => e = .returned (.bool (rdOk v es)) /\ Below w.heap.size w w':=by
 have hbx:=below_box w (.cells #[.int .i64 v,.int .i64 s,.slice ao es.length c] 66);have HB:=Lh hbx;have HE:=Lh (hE.below (hbx.mono hB));clear hE hbx;go_enter Tryz.func54,Tryz.ntmps54;go_wp2_with fail;refine (valid46 ⟨#[114,101,97,100,101,114]⟩ v es ao c B _ (by simp;omega) HE.out hn).mono ?_;rintro e w1 ⟨rfl,hb1⟩;have HB1:=Lh (HB.out.trans (hb1.mono (by simp;try omega)));clear hb1;have HR:=Lh (feed_rd ⟨#[114,101,97,100,101,114]⟩ v es (by decide));by_cases h : feedV ⟨#[114,101,97,100,101,114]⟩ v es = 0
 ·have HR2:=Lh (show rdOk v es = true from by rw [<- HR.out];simpa using h);rw [h];clear h;go_wp2_with fail;go_ret;exact ⟨ret_bool HR2.out.symm,HB1.out⟩
 ·have HR2:=Lh (show rdOk v es = false from by rw [<- HR.out];simpa using h);have hb : (feedV ⟨#[114,101,97,100,101,114]⟩ v es == 0) = false:=by simpa using h
  clear h;go_wp2_with fail;go_ret;exact ⟨ret_bool (by rw [HR2.out]),HB1.out⟩
def RefS (B : Nat) (w : World) (t : Ev × Value × Value) : Prop:=EvB t.1 /\ SlI B w t.2.1 t.1.days.ex /\ SlI B w t.2.2 t.1.days.xt
theorem RefS.below {B : Nat} {w w' : World} {t : Ev × Value × Value} (h : RefS B w t) (hw : Below B w w') : RefS B w' t:=⟨h.1,h.2.1.below hw,h.2.2.below hw⟩
theorem RefS.mono {B B' : Nat} {w : World} {t : Ev × Value × Value} (h : RefS B w t) (hB : B <= B') : RefS B' w t:=⟨h.1,h.2.1.mono hB,h.2.2.mono hB⟩
structure Seg (B : Nat) (w : World) (ao : Option Addr) (ts : List (Ev × Value × Value)) : Prop where
 at' : ts = [] ∨ ∃ b o,ao = some ⟨b,o,none⟩ /\ b < B /\ ∀ (j : Nat) (u : Value),(tCells ts)[j]? = some u -> w.cell? ⟨b,o + j,none⟩ = some u
 ref : ∀ t ∈ ts,RefS B w t
theorem Seg.below {B : Nat} {w w' : World} {ao : Option Addr} {ts : List (Ev × Value × Value)} (h : Seg B w ao ts) (hw : Below B w w') : Seg B w' ao ts:=by
 refine ⟨?_,fun t ht => (h.ref t ht).below hw⟩;rcases h.at' with h | ⟨b,o,ha,hb,hc⟩
 ·exact .inl h
 ·exact .inr ⟨b,o,ha,hb,fun j u hj => (hw.cell (p:=⟨b,o + j,none⟩) hb).trans (hc j u hj)⟩
theorem Seg.mono {B B' : Nat} {w : World} {ao : Option Addr} {ts : List (Ev × Value × Value)} (h : Seg B w ao ts) (hB : B <= B') : Seg B' w ao ts:=by
 refine ⟨?_,fun t ht => (h.ref t ht).mono hB⟩;rcases h.at' with h | ⟨b,o,ha,hb,hc⟩
 ·exact .inl h
 ·exact .inr ⟨b,o,ha,by omega,hc⟩
theorem Seg.nil (B : Nat) (w : World) (ao : Option Addr) : Seg B w ao []:=⟨.inl rfl,fun t h => by cases h⟩
theorem tCells_app (a b : List (Ev × Value × Value)) : tCells (a ++ b) = tCells a ++ tCells b:=by unfold tCells;simp
theorem tCells_take (ts : List (Ev × Value × Value)) (k : Nat) (hk : k <= ts.length) : tCells (ts.take k) = (tCells ts).take (k * 13):=by
 have h : tCells ts = tCells (ts.take k) ++ tCells (ts.drop k):=by rw [<- tCells_app,xh]
 rw [h,List.take_left' (by rw [tCells_len,xl,Nat.min_eq_left hk])]
theorem tCells_drop (ts : List (Ev × Value × Value)) (k : Nat) (hk : k <= ts.length) : tCells (ts.drop k) = (tCells ts).drop (k * 13):=by
 have h : tCells ts = tCells (ts.take k) ++ tCells (ts.drop k):=by rw [<- tCells_app,xh]
 rw [h,List.drop_left' (by rw [tCells_len,xl,Nat.min_eq_left hk])]
theorem seg_c {w : World} {b o : Nat} {ts : List (Ev × Value × Value)} (h : ∀ (j : Nat) (u : Value),(tCells ts)[j]? = some u -> w.cell? ⟨b,o + j,none⟩ = some u) (j : Nat) (t : Ev × Value × Value) (ht : ts[j]? = some t) : EvC b (o + j * 13) t.1 t.2.1 t.2.2 w:=by
 have hc : ∀ i u,i < 13 -> (evCells t.1 t.2.1 t.2.2).toList[i]? = some u -> w.cell? ⟨b,o + j * 13 + i,none⟩ = some u:=fun i u hi hu => by
  rw [Nat.add_assoc];exact h (j * 13 + i) u (by rw [tCells_get ts j i t ht hi];exact hu)
 refine ⟨?_,?_,?_,?_,?_,?_,?_,?_,?_,?_,?_,?_,?_⟩
 ·exact hc 0 _ (by omega) rfl
 ·exact hc 1 _ (by omega) rfl
 ·exact hc 2 _ (by omega) rfl
 ·exact hc 3 _ (by omega) rfl
 ·exact hc 4 _ (by omega) rfl
 ·exact hc 5 _ (by omega) rfl
 ·exact hc 6 _ (by omega) rfl
 ·exact hc 7 _ (by omega) rfl
 ·exact hc 8 _ (by omega) rfl
 ·exact hc 9 _ (by omega) rfl
 ·exact hc 10 _ (by omega) rfl
 ·exact hc 11 _ (by omega) rfl
 ·exact hc 12 _ (by omega) rfl
theorem Seg.evs {B : Nat} {w : World} {ao : Option Addr} {ts : List (Ev × Value × Value)} (h : Seg B w ao ts) : Evs B w ao (ts.map (·.1)):=by
 rcases h.at' with h | ⟨b,o,ha,hb,hc⟩
 ·exact .inl (by rw [h];rfl)
 ·refine .inr ⟨b,o,ha,hb,fun j e hj => ?_⟩;obtain ⟨t,ht,he⟩ : ∃ t,ts[j]? = some t /\ t.1 = e:=by
   rw [xk] at hj;cases h2 : ts[j]? with
   | none => rw [h2] at hj;cases hj
   | some t => rw [h2] at hj;exact ⟨t,rfl,by simpa using hj⟩
  subst he;obtain ⟨r1,r2,r3⟩:=h.ref t (xi ht);exact ⟨r1,t.2.1,t.2.2,seg_c hc j t ht,r2,r3⟩
theorem Seg.one {B : Nat} {w : World} {ao : Option Addr} {ts : List (Ev × Value × Value)} (h : Seg B w ao ts) : ∀ u ∈ tCells ts,u.oneCell' = true:=by
 intro u hu;unfold tCells at hu;obtain ⟨t,ht,hut⟩:=List.mem_flatMap.1 hu;obtain ⟨_,⟨ax,cx,e1,_⟩,⟨ay,cy,e2,_⟩⟩:=h.ref t ht;rw [e1,e2] at hut;exact evCells_one _ _ _ _ _ _ _ u hut
def lessU (a b : ByteArray) : Bool:=Op.bytesLess a.toList b.toList
def putT (t : Ev × Value × Value) : List (Ev × Value × Value) -> List (Ev × Value × Value)
 | [] => [t]
 | s :: r => if lessU s.1.uid t.1.uid = true then s :: putT t r else if s.1.uid = t.1.uid then t :: r else t :: s :: r
def putE (e : Ev) : List Ev -> List Ev
 | [] => [e]
 | s :: r => if lessU s.uid e.uid = true then s :: putE e r else if s.uid = e.uid then e :: r else e :: s :: r
theorem putT_map (t : Ev × Value × Value) : ∀ ts : List (Ev × Value × Value),(putT t ts).map (·.1) = putE t.1 (ts.map (·.1))
 | [] => rfl
 | s :: r => by
  unfold putT;rw [xn];unfold putE;by_cases h1 : lessU s.1.uid t.1.uid = true
  ·rw [if_pos h1,if_pos h1,xn,putT_map t r]
  ·rw [if_neg h1,if_neg h1];by_cases h2 : s.1.uid = t.1.uid
   ·rw [if_pos h2,if_pos h2];rfl
   ·rw [if_neg h2,if_neg h2];rfl
def AheadT (t : Ev × Value × Value) (ts : List (Ev × Value × Value)) (k : Nat) : Prop:=∀ j s,j < k -> ts[j]? = some s -> lessU s.1.uid t.1.uid = true
theorem putT_end (t : Ev × Value × Value) : ∀ (ts : List (Ev × Value × Value)),AheadT t ts ts.length -> putT t ts = ts ++ [t]
 | [],_ => rfl
 | s :: r,h => by
  unfold putT;rw [if_pos (h 0 s (by simp) (by simp))];rw [putT_end t r (fun j u hj hu => h (j + 1) u (by simp;omega) (by simpa using hu))];rfl
theorem putT_same (t : Ev × Value × Value) : ∀ (ts : List (Ev × Value × Value)) (k : Nat) (s : Ev × Value × Value),AheadT t ts k -> ts[k]? = some s -> lessU s.1.uid t.1.uid = false -> s.1.uid = t.1.uid -> putT t ts = ts.take k ++ t :: ts.drop (k + 1)
 | [],_,_,_,h,_,_ => by simp at h
 | s0 :: r,0,s,_,h,hl,he => by
  simp at h;subst h;unfold putT;rw [if_neg (by rw [hl];simp),if_pos he];rfl
 | s0 :: r,k + 1,s,ha,h,hl,he => by
  unfold putT;rw [if_pos (ha 0 s0 (by omega) (by simp))];rw [putT_same t r k s (fun j u hj hu => ha (j + 1) u (by omega) (by simpa using hu)) (by simpa using h) hl he];rfl
theorem putT_new (t : Ev × Value × Value) : ∀ (ts : List (Ev × Value × Value)) (k : Nat) (s : Ev × Value × Value),AheadT t ts k -> ts[k]? = some s -> lessU s.1.uid t.1.uid = false -> ¬ s.1.uid = t.1.uid -> putT t ts = ts.take k ++ t :: ts.drop k
 | [],_,_,_,h,_,_ => by simp at h
 | s0 :: r,0,s,_,h,hl,he => by
  simp at h;subst h;unfold putT;rw [if_neg (by rw [hl];simp),if_neg he];rfl
 | s0 :: r,k + 1,s,ha,h,hl,he => by
  unfold putT;rw [if_pos (ha 0 s0 (by omega) (by simp))];rw [putT_new t r k s (fun j u hj hu => ha (j + 1) u (by omega) (by simpa using hu)) (by simpa using h) hl he];rfl
end Go.Proofs.YtcomifbfldoeiaaGreatDoor
