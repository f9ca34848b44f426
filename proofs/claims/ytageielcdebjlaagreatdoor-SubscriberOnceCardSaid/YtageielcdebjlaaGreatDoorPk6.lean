/- Copies between rows of structs in memory. No function of the program in sight. Condition: none. Events in a row of one's own, what they refer to in rows of its own: laid in, written over. No function of the program in sight. Condition: none. The days of a time in a term: calendar.At, Days, and the reference's. A set of numbers in a map that the call makes (map[int]bool): filled and asked. Numbers as decimal texts: strconv.Itoa, both digits, the reference's digits and decimal at the widths that are used; the text of a date. The reference's parser of rules, in plain words; its number (263). Days told as a series, in plain words; a series in a box whose two lists grow. Dates and rules of any text: the program's recurrence.date and recurrence.Parse: some series without lists, and a code. The reference's series of days: with, weekdays, Exceptions. The reference's series of any ascending days: Of (141). -/
import Derived.Test.YtageielcdebjlaaGreatDoorProg
import Derived.WalkKit
import Derived.Lib.Hide
import Derived.Deep.QuietTactic
import Derived.BigQuiet
import Derived.Deep.RegionLaw
import Derived.Laws.CopyRow
import Derived.Laws.CopyOwn
import Derived.Laws.IdiomCopy
import Derived.Lib.AppendZerosOnto
import Derived.Lib.Overlaps
import Derived.Maps.AppendAt
import Derived.Laws.Externs
import Derived.Laws.NewBlocks
import Derived.Test.YtageielcdebjlaaGreatDoorPk4
import Derived.Test.YtageielcdebjlaaGreatDoorPk5
import Derived.Maps.OwnOps
import Derived.Maps.Views
import Derived.Test.YtageielcdebjlaaGreatDoorPk1
import Derived.Test.YtageielcdebjlaaGreatDoorPk2
import Derived.Test.YtageielcdebjlaaGreatDoorPk3
import Derived.Lib.AppendIntMem
import Derived.Shelf.Strconv.AtoiAll
import Derived.Deep.RegionWith
set_option maxRecDepth 100000
set_option maxHeartbeats 40000000
namespace Go.Proofs.YtageielcdebjlaaGreatDoor
open Go.RowKit
theorem run_copy_rowk (P : Program) (w : World) (dT sT ty elem : TypeId) (k : Nat) (g o dLen dCap : Nat) (a : Addr) (sLen sCap : Nat) (cur : Array Value) (t : TypeId) (cs : List Value)
  (hu : P.underlying dT = some (.slice elem)) (hs : (P.info? elem).map (·.size) = some k)
  (hg : w.heap[g]? = some (.cells cur t (0,0))) (hn : cs.length = Nat.min sLen dLen * k)
  (hsrc : ∀ j v,cs[j]? = some v -> w.cell? (a.add j) = some v) (hfit : o + cs.length <= cur.size) (h1 : ∀ v ∈ cs,v.oneCell' = true) :
  (Builtin.copy_ #[dT,sT] ty #[.slice (some ⟨g,o,none⟩) dLen dCap,.slice (some a) sLen sCap]).run P w =
   .ok (goInt (Nat.min sLen dLen)) (w.setRow g (cur.toList.take o ++ cs ++ cur.toList.drop (o + cs.length)).toArray):=by
 have hl:=run_loadCells_list (P:=P) w a cs hsrc;have hst:=run_storeCells_at P g o t cs 0 cur w hg (by simpa using hfit) h1;cases hq : P.info? elem with
 | none => simp [hq] at hs
 | some i =>
  have hi : i.size = k:=by simpa [hq] using hs
  rw [hn] at hl;simp [Builtin.copy_,run_underlying hu,Builtin.lenOf,Builtin.firstCells,sizeOf,typeInfo,hq,hi,hl,hst]
theorem splice_end {α : Type} (L ys zs : List α) (p : Nat) (h : p + ys.length + zs.length <= L.length) : (splice (splice L p ys) (p + ys.length) zs).take (p + ys.length + zs.length) = L.take p ++ ys ++ zs:=by
 have e1 : (splice L p ys).take (p + ys.length) = L.take p ++ ys:=by
  unfold splice;rw [<- List.append_assoc,List.take_left' (by simp;omega)]
 unfold splice at e1 ⊢;rw [e1,<- List.append_assoc,List.take_left' (by simp;omega)]
theorem splice_mid {α : Type} (L ys zs : List α) (p : Nat) (h : p + ys.length + zs.length <= L.length) : (splice (splice L (p + ys.length) zs) p ys).take (p + ys.length + zs.length) = L.take p ++ ys ++ zs:=by
 have e1 : (splice L (p + ys.length) zs).take p = L.take p:=by
  unfold splice;rw [List.take_append_of_le_length (by simp;omega),List.take_take,Nat.min_eq_left (by omega)]
 have e2 : (splice L (p + ys.length) zs).drop (p + ys.length) = zs ++ L.drop (p + ys.length + zs.length):=by
  unfold splice;rw [List.drop_left' (by simp;omega)]
 unfold splice at e1 e2 ⊢;rw [e1,e2,<- List.append_assoc,<- List.append_assoc,List.take_left' (by simp;omega)]
theorem grownBy_setRow (w : World) (g : Nat) (cs : Array Value) : w.grownBy (w.setRow g cs) (some g):=by
 refine ⟨rfl,rfl,rfl,by simp [World.setRow],fun k hk hne => ?_⟩;exact setRow_other w g k cs (fun h => hne (by rw [h]))
theorem wpList_copy_rowk {P : Program} {w : World} {ops : Array Oper} {rest : List Oper} {o : Oper} {a : Act} {Q : Exit -> Act -> World -> Prop} (hgd : o.guard = none) (d s : Operand) (dT sT : TypeId)
  (ho : o.op = .call { callee:=.builtin .copy,args:=#[d,s],argTypes:=#[dT,sT] }) (elem : TypeId) (k : Nat) (hu : P.underlying dT = some (.slice elem)) (hsz : (P.info? elem).map (·.size) = some k)
  (g off dLen dCap : Nat) (ad : Addr) (sLen sCap : Nat) (hd : a.eval d = .slice (some ⟨g,off,none⟩) dLen dCap) (hs : a.eval s = .slice (some ad) sLen sCap)
  (L : List Value) (t : TypeId) (hg : w.heap[g]? = some (.cells L.toArray t (0,0))) (cs : List Value) (hn : cs.length = Nat.min sLen dLen * k)
  (hsrc : ∀ j v,cs[j]? = some v -> w.cell? (ad.add j) = some v) (hfit : off + cs.length <= L.length) (h1 : ∀ v ∈ cs,v.oneCell' = true)
  (h : ∀ w',Hid (w'.heap[g]? = some (.cells (splice L off cs).toArray t (0,0))) -> Hid (w.grownBy w' (some g)) -> wpList P ops Q rest (a.put o.dst (goInt (Nat.min sLen dLen))) w') : wpList P ops Q (o :: rest) a w:=by
 refine wpList_plain hgd fun K hK => ?_
 have hrun:=run_copy_rowk P w dT sT o.type elem k g off dLen dCap ad sLen sCap L.toArray t cs hu hsz hg hn hsrc (by simpa using hfit) h1;unfold Oper.wp execOp;simp only [ho,resolve,invoke,builtin,Sem.run_bind,Sem.run_pure,Result.andThen_ok,List.map_toArray,List.map_cons,List.map_nil,hd,hs,hrun];exact hK _ _ (h _ (show _ = _ by simpa [splice] using setRow_heap w g _ _ t _ hg) (grownBy_setRow w g _))
theorem step_copy_rowk {P : Program} {ops : Array Oper} {o : Oper} {a : Act} {w : World} {K : Act -> World -> Prop} {Q : Exit -> Act -> World -> Prop} {E : Prop} (hgd : o.guard = none) (d s : Operand) (dT sT : TypeId)
  (ho : o.op = .call { callee:=.builtin .copy,args:=#[d,s],argTypes:=#[dT,sT] }) (elem : TypeId) (k : Nat) (hu : P.underlying dT = some (.slice elem)) (hsz : (P.info? elem).map (·.size) = some k)
  (g off dLen dCap : Nat) (ad : Addr) (sLen sCap : Nat) (hd : a.eval d = .slice (some ⟨g,off,none⟩) dLen dCap) (hs : a.eval s = .slice (some ad) sLen sCap)
  (L : List Value) (t : TypeId) (hg : w.heap[g]? = some (.cells L.toArray t (0,0))) (cs : List Value) (hn : cs.length = Nat.min sLen dLen * k)
  (hsrc : ∀ j v,cs[j]? = some v -> w.cell? (ad.add j) = some v) (hfit : off + cs.length <= L.length) (h1 : ∀ v ∈ cs,v.oneCell' = true)
  (h : ∀ w',Hid (w'.heap[g]? = some (.cells (splice L off cs).toArray t (0,0))) -> Hid (w.grownBy w' (some g)) -> K (a.put o.dst (goInt (Nat.min sLen dLen))) w') :
  if Region.wanted o (yielded ops a.tmps) = true then Oper.wp P o a w K Q else E:=by
 have hw : Region.wanted o (yielded ops a.tmps) = true:=by simp [Region.wanted,hgd]
 rw [if_pos hw];have hrun:=run_copy_rowk P w dT sT o.type elem k g off dLen dCap ad sLen sCap L.toArray t cs hu hsz hg hn hsrc (by simpa using hfit) h1;unfold Oper.wp;simp [execOp,ho,resolve,invoke,builtin,hd,hs,hrun,Result.andThen];exact h _ (show _ = _ by simpa [splice] using setRow_heap w g _ _ t _ hg) (by rw [<- List.append_assoc];exact grownBy_setRow w g _)
theorem infoEv1 : (Tryz.prog.info? 82).map (fun i => (i.zero,i.size,i.bytes)) = some (some (.agg #[.string ⟨#[]⟩,.int .i64 0,.bool false,.int .i64 0,.int .i64 0,.int .i64 0,.int .i64 0,.slice none 0 0,.slice none 0 0,.int .i64 0,.int .i64 0,.string ⟨#[]⟩,.string ⟨#[]⟩]),13,160):=by kernel_rfl
theorem infoEv0 : ∃ i0 : TypeInfo,Tryz.prog.info? 82 = some i0 /\ i0.zero = some (.agg #[.string ⟨#[]⟩,.int .i64 0,.bool false,.int .i64 0,.int .i64 0,.int .i64 0,.int .i64 0,.slice none 0 0,.slice none 0 0,.int .i64 0,.int .i64 0,.string ⟨#[]⟩,.string ⟨#[]⟩]) /\ i0.size = 13 /\ i0.bytes = 160:=by
 have h:=infoEv1;cases hq : Tryz.prog.info? 82 with
 | none => rw [hq] at h;cases h
 | some i =>
  rw [hq] at h;simp only [Option.map_some,Option.some.injEq,Prod.mk.injEq] at h;exact ⟨i,rfl,h.1,h.2.1,h.2.2⟩
def Inserted (base : Nat) (v : Value) (w : World) (n : Nat) (zs : List Value) (e : Ending) (w' : World) : Prop :=
 ∃ v',e = .returned v' /\ w'.ownsRow base 82 13 v' (n + 1) zs /\ w.grownBy w' v.ownBlock /\ (v'.ownBlock = v.ownBlock ∨ v'.ownBlock = some w.heap.size)
theorem insert82_end (base : Nat) (v : Value) (n g : Nat) (xs ys : List Value) (w : World) (hown : w.ownsRow base 82 13 v n xs) (hn : n <= 1000000) (hbase : base <= w.heap.size)
  (hg : w.heap[g]? = some (.cells ys.toArray 82 (0,0))) (hy : ys.length = 13) (h1y : ∀ u ∈ ys,u.oneCell' = true) :
  Calls Tryz.prog 82 #[v,.int .i64 n,.slice (some ⟨g,0,none⟩) 1 1] w (Inserted base v w n (xs ++ ys)):=by
 obtain ⟨i0,hi,hz0,hz1,hz2⟩:=infoEv0;have hgc : ∀ j u,ys[j]? = some u -> w.cell? ((⟨g,0,none⟩ : Addr).add j) = some u:=fun j u hj => by
  rw [Addr.add_lit];have hlt:=(List.getElem?_eq_some_iff.1 hj).1;simp [World.cell?,hg];exact hj
 obtain ⟨base',c,hv⟩ : ∃ base' c,v = .slice base' n c:=by
  rcases hown.2 with ⟨h1,h2⟩ | ⟨g0,cap,cur,h1,_⟩
  ·exact ⟨none,0,by rw [h1,h2]⟩
  ·exact ⟨_,_,h1⟩
 have hnc : n <= c:=by
  rcases hown.2 with ⟨h1,h2⟩ | ⟨g0,cap,cur,h1,_,_,h2,_⟩
  ·omega
  ·rw [hv] at h1;cases h1;exact h2
 have HO:=Lh hown;have HC:=Lh hgc;have HG:=Lh hg;clear hown hgc hg;subst hv;go_enter Tryz.func82,Tryz.ntmps82;go_wp2_with (at_builtin;refine wpList_append_own_at _ rfl (.tmp 23) (.tmp 24) 22 rfl base 82 i0 _ 13 160 Tryz.underlying22 hi hz0 hz1 hz2 rfl (by decide) _ n xs rfl HO.out ⟨g,0,none⟩ 1 1 ys rfl hy HC.out h1y (by unfold maxLen;omega) (by omega) hbase ?_)
 all_goals
  intro v' w' h1 h2 _ h4;have H:=Lh (And.intro h1 (And.intro h2 h4));clear h1 h2 h4;go_wp2_with fail;go_ret;refine ⟨v',rfl,?_⟩;first | exact H.out | (rw [show (Value.slice base' n c).ownBlock = (Value.slice base' n n).ownBlock from by cases base' <;> rfl];exact H.out)
theorem insert82_grow (base : Nat) (b n i g : Nat) (cur xs ys : List Value) (w : World) (hb : w.heap[b]? = some (.cells cur.toArray 82 (0,0))) (hcur : cur.length = n * 13) (hx : cur = xs) (hin : i < n) (hn : n <= 1000000) (hbase : base <= w.heap.size)
  (hg : w.heap[g]? = some (.cells ys.toArray 82 (0,0))) (hy : ys.length = 13) (h1y : ∀ u ∈ ys,u.oneCell' = true) (h1x : ∀ u ∈ xs,u.oneCell' = true) :
  Calls Tryz.prog 82 #[.slice (some ⟨b,0,none⟩) n n,.int .i64 i,.slice (some ⟨g,0,none⟩) 1 1] w (Inserted base (.slice (some ⟨b,0,none⟩) n n) w n (xs.take (i * 13) ++ ys ++ xs.drop (i * 13))):=by
 obtain ⟨i0,hi,hz0,hz1,hz2⟩:=infoEv0;subst hx;obtain ⟨z,hz⟩ : ∃ z : Value,z = .agg #[.string ⟨#[]⟩,.int .i64 0,.bool false,.int .i64 0,.int .i64 0,.int .i64 0,.int .i64 0,.slice none 0 0,.slice none 0 0,.int .i64 0,.int .i64 0,.string ⟨#[]⟩,.string ⟨#[]⟩]:=⟨_,rfl⟩
 have hzc : z.cells.size = 13:=by rw [hz];rfl
 have hsz : (Tryz.prog.info? 82).map (·.size) = some 13:=by rw [hi];simp [hz1]
 rw [<- hz] at hz0;clear hz;have hbw : b < w.heap.size:=(Array.getElem?_eq_some_iff.1 hb).1;have hgw : g < w.heap.size:=(Array.getElem?_eq_some_iff.1 hg).1;have hcell : ∀ (W : World) (q : Nat) (l : List Value),W.heap[q]? = some (.cells l.toArray 82 (0,0)) -> ∀ p j u,(l.drop p)[j]? = some u -> W.cell? ((⟨q,p,none⟩ : Addr).add j) = some u:=fun W q l hq p j u hj => by
  rw [Addr.add_lit];rw [List.getElem?_drop] at hj;simp [World.cell?,hq];exact hj
 have hkk : (n : Int) + 1 - (i : Int) = ((n + 1 - i : Nat) : Int):=by omega
 have hik : i + (n + 1 - i) = n + 1:=by omega
 have hold : (Builtin.firstCells i0.size i (.slice (some ⟨b,0,none⟩) i n)).run Tryz.prog w.drew = .ok (cur.take (i * 13)).toArray w.drew:=by
  rw [hz1];exact run_firstCells_some w.drew 13 i ⟨b,0,none⟩ i n (cur.take (i * 13)) (by rw [List.length_take];omega) (fun j v hj => by
   rw [List.getElem?_take] at hj;split at hj
   ·exact hcell w b cur hb 0 j v (by simpa using hj)
   ·cases hj)
 have hrz : ∀ ty,(Builtin.append_ #[22,3] ty #[.slice (some ⟨b,0,none⟩) i n,.int .i64 ((n : Int) + 1 - (i : Int))]).run Tryz.prog w =
   .ok (.slice (some ⟨w.heap.size,0,none⟩) (n + 1) (grownCap w (n + 1) n 82)) (w.drew.alloc (.cells ((cur.take (i * 13)).toArray ++ Builtin.zeroCells z.cells (n + 1 - i) ++ Builtin.zeroCells z.cells (grownCap w (n + 1) n 82 - (n + 1))) 82)):=fun ty => by
  have h:=Lib.run_append_grow_zeros w 22 3 ty 82 i0 z .i64 .i64 Tryz.underlying22 Tryz.underlying3 hi hz0 (some ⟨b,0,none⟩) i n (cur.take (i * 13)) hold (n + 1 - i) (by omega) (by omega) (by omega) (by omega) (by rw [hz2];omega) (by rw [hz2,hik];exact growslice_fits (by omega) (by omega));rw [hik] at h;rw [hkk];exact h
 obtain ⟨G,hG⟩ : ∃ G,G = grownCap w (n + 1) n 82:=⟨_,rfl⟩
 obtain ⟨ROW,hROW⟩ : ∃ ROW : List Value,ROW = ((cur.take (i * 13)).toArray ++ Builtin.zeroCells z.cells (n + 1 - i) ++ Builtin.zeroCells z.cells (G - (n + 1))).toList:=⟨_,rfl⟩
 obtain ⟨W1,hW1⟩ : ∃ W1,W1 = w.drew.alloc (.cells ROW.toArray 82):=⟨_,rfl⟩
 have hrz2 : ∀ ty,(Builtin.append_ #[22,3] ty #[.slice (some ⟨b,0,none⟩) i n,.int .i64 ((n : Int) + 1 - (i : Int))]).run Tryz.prog w = .ok (.slice (some ⟨w.heap.size,0,none⟩) (n + 1) G) W1:=fun ty => by
  rw [hrz,hW1,hROW,hG]
 have hGn : n + 1 <= G:=by rw [hG];exact grownCap_ge w _ _ _
 have hRl : ROW.length = G * 13:=by
  rw [hROW];simp [Builtin.zeroCells,hzc];omega
 have hRt : ROW.take (i * 13) = cur.take (i * 13):=by
  rw [hROW];rw [Array.toList_append,Array.toList_append,List.append_assoc,List.take_append_of_le_length (by simp;omega)];rw [List.take_take,Nat.min_self]
 have hG63 : G <= maxLen:=by
  rw [hG];exact grownCap_le_maxLen w (n + 1) n 82 (by unfold maxLen;omega)
 have hG64 : G <= 9223372036854775807:=by unfold maxLen at hG63;omega
 have HW:=Lh (show W1.heap[w.heap.size]? = some (.cells ROW.toArray 82 (0,0)) from by rw [hW1];exact heap_alloc_new w.drew _);have HWg:=Lh (show w.grownBy W1 none from by rw [hW1];have h:=World.grownBy_alloc w.drew (.cells ROW.toArray 82) none;exact ⟨h.os,h.tape,h.output,h.size,h.block⟩);have HB1:=Lh (show W1.heap[b]? = some (.cells cur.toArray 82 (0,0)) from (HWg.out.block b hbw (by simp)).trans hb);have HG1:=Lh (show W1.heap[g]? = some (.cells ys.toArray 82 (0,0)) from (HWg.out.block g hgw (by simp)).trans hg);have hGi : ¬ (G = i):=by omega
 have hGim : ¬ (G = i + 1):=by omega
 have hni : ¬ (n = i):=by omega
 have hbN : b ≠ w.heap.size:=by omega
 have hw1 : IntKind.i64.wrap ((i : Int) + 1) = (i : Int) + 1:=by rw [IntKind.wrap_i64];omega
 have hb1 : (0 : Int) <= (i : Int) + 1:=by omega
 have htn : ((i : Int) + 1).toNat = i + 1:=by omega
 have hb3 : (i : Int) <= (n : Int):=by omega
 have hz2' : ¬ ((i : Int) = (n : Int)):=by omega
 have hmA : ys.length = Nat.min 1 (n + 1 - i) * 13:=by rw [hy,show Nat.min 1 (n + 1 - i) = 1 from Nat.min_eq_left (by omega)]
 have hfA : i * 13 + ys.length <= ROW.length:=by rw [hRl,hy];omega
 have hmB : (cur.drop (i * 13)).length = Nat.min (n - i) (n + 1 - (i + 1)) * 13:=by rw [List.length_drop,hcur,show Nat.min (n - i) (n + 1 - (i + 1)) = n - i from Nat.min_eq_left (by omega)];omega
 have hfB : i * 13 + 13 + (cur.drop (i * 13)).length <= ROW.length:=by rw [hRl,List.length_drop,hcur];omega
 have h1B : ∀ u ∈ cur.drop (i * 13),u.oneCell' = true:=fun u hu => h1x u (List.mem_of_mem_drop hu)
 have hfin : (splice (splice ROW (i * 13) ys) ((i + 1) * 13) (cur.drop (i * 13))).take ((n + 1) * 13) = cur.take (i * 13) ++ ys ++ cur.drop (i * 13):=by
  have h:=splice_end ROW ys (cur.drop (i * 13)) (i * 13) (by rw [hy];exact hfB);rw [hy,hRt] at h;rw [<- h,show (i + 1) * 13 = i * 13 + 13 by omega,show (n + 1) * 13 = i * 13 + 13 + (cur.drop (i * 13)).length by rw [List.length_drop,hcur];omega]
 have HF:=Lh (And.intro hfin (show (splice (splice ROW (i * 13) ys) ((i + 1) * 13) (cur.drop (i * 13))).length = G * 13 from by rw [length_splice _ _ _ (by rw [length_splice _ _ _ hfA];omega),length_splice _ _ _ hfA,hRl]));have hfC : (i + 1) * 13 + (cur.drop (i * 13)).length <= (splice ROW (i * 13) ys).length:=by rw [length_splice _ _ _ hfA];omega
 clear hfin;have H1:=Lh hrz2;have HC:=Lh hcell;have HR:=Lh (And.intro hRl hRt);have HL:=Lh hcur;obtain ⟨N,hN⟩ : ∃ N,N = w.heap.size:=⟨_,rfl⟩
 rw [<- hN] at H1 HW hbN;have HN:=Lh hN;clear hrz hrz2 hcell hold hROW hG hRl hRt hW1 hcur hb hg hkk hN;go_enter Tryz.func82,Tryz.ntmps82;go_wp2_with (first | (at_builtin;refine Lib.wpList_append_run _ rfl _ _ _ _ rfl _ _ rfl rfl _ _ (H1.out _) ?_) | (refine wpList_copy_rowk rfl (.tmp 43) (.tmp 44) 22 22 rfl 82 13 Tryz.underlying22 hsz N (i * 13) (n + 1 - i) (G - i) ⟨g,0,none⟩ 1 1 rfl rfl ROW 82 HW.out ys hmA (fun j u hj => HC.out W1 g ys HG1.out 0 j u (by simpa using hj)) hfA h1y ?_));intro W2 hR2 hB2;have HB2:=Lh (show W2.heap[b]? = some (.cells cur.toArray 82 (0,0)) from (hB2.out.block b (Array.getElem?_eq_some_iff.1 HB1.out).1 (by simpa using hbN)).trans HB1.out);obtain ⟨R1,hR1⟩ : ∃ R1,R1 = splice ROW (i * 13) ys:=⟨_,rfl⟩
 rw [<- hR1] at hR2 hfC HF;obtain ⟨X2,hX2⟩ : ∃ X2,X2 = cur.drop (i * 13):=⟨_,rfl⟩
 have hsB : ∀ j u,X2[j]? = some u -> W2.cell? ((⟨b,i * 13,none⟩ : Addr).add j) = some u:=fun j u hj => HC.out W2 b cur HB2.out (i * 13) j u (by rw [<- hX2];exact hj)
 have HSB:=Lh hsB;rw [<- hX2] at hfC HF hmB h1B;have HX2:=Lh hX2;clear hR1 hsB hfB hX2;go_wp2_with fail;go_region_law (refine step_copy_rowk rfl (.tmp 50) (.tmp 53) 22 22 rfl 82 13 Tryz.underlying22 hsz N ((i + 1) * 13) (n + 1 - (i + 1)) (G - (i + 1)) ⟨b,i * 13,none⟩ (n - i) (n - i) (by simp [Act.eval,Act.put]) (by simp [Act.eval,Act.put]) R1 82 hR2.out X2 hmB HSB.out hfC h1B ?_;intro W3 hR3 hB3)
 all_goals
  have H:=Lh (And.intro hR3.out hB3.out);clear hR3 hB3;go_wp2_with fail;go_ret;refine ⟨_,rfl,⟨by rw [List.length_append,List.length_append,List.length_take,List.length_drop,hy,HL.out];omega,.inr ⟨N,G,_,rfl,by rw [HN.out];exact hbase,H.out.1,hGn,hG63,by simpa using HF.out.2,by rw [<- HX2.out];simpa using HF.out.1⟩⟩,⟨H.out.2.os.trans (hB2.out.os.trans HWg.out.os),H.out.2.tape.trans (hB2.out.tape.trans HWg.out.tape),H.out.2.output.trans (hB2.out.output.trans HWg.out.output),Nat.le_trans HWg.out.size (Nat.le_trans hB2.out.size H.out.2.size),fun k hk _ => ?_⟩,.inr (by rw [<- HN.out];rfl)⟩;have hkN : some k ≠ some N:=by rw [HN.out];intro h;cases h;omega
  exact (H.out.2.block k (Nat.lt_of_lt_of_le hk (Nat.le_trans HWg.out.size hB2.out.size)) hkN).trans ((hB2.out.block k (Nat.lt_of_lt_of_le hk HWg.out.size) hkN).trans (HWg.out.block k hk (by simp)))
theorem insert82_shift (base : Nat) (b n c i g : Nat) (cur xs ys : List Value) (w : World) (hb : w.heap[b]? = some (.cells cur.toArray 82 (0,0))) (hcur : cur.length = c * 13) (hx : cur.take (n * 13) = xs) (hin : i < n) (hnc : n + 1 <= c) (hcm : c <= maxLen) (hbb : base <= b)
  (hg : w.heap[g]? = some (.cells ys.toArray 82 (0,0))) (hgb : g ≠ b) (hy : ys.length = 13) (h1y : ∀ u ∈ ys,u.oneCell' = true) (h1x : ∀ u ∈ xs,u.oneCell' = true) :
  Calls Tryz.prog 82 #[.slice (some ⟨b,0,none⟩) n c,.int .i64 i,.slice (some ⟨g,0,none⟩) 1 1] w (Inserted base (.slice (some ⟨b,0,none⟩) n c) w n (xs.take (i * 13) ++ ys ++ xs.drop (i * 13))):=by
 obtain ⟨i0,hi,hz0,hz1,hz2⟩:=infoEv0;have hsz : (Tryz.prog.info? 82).map (·.size) = some 13:=by rw [hi];simp [hz1]
 have hbw : b < w.heap.size:=(Array.getElem?_eq_some_iff.1 hb).1;have hgw : g < w.heap.size:=(Array.getElem?_eq_some_iff.1 hg).1;have hc63 : c <= 9223372036854775807:=by unfold maxLen at hcm;omega
 have hxl : xs.length = n * 13:=by rw [<- hx,List.length_take,hcur];omega
 have hcell : ∀ (W : World) (q : Nat) (l : List Value),W.heap[q]? = some (.cells l.toArray 82 (0,0)) -> ∀ p j u,(l.drop p)[j]? = some u -> W.cell? ((⟨q,p,none⟩ : Addr).add j) = some u:=fun W q l hq p j u hj => by
  rw [Addr.add_lit];rw [List.getElem?_drop] at hj;simp [World.cell?,hq];exact hj
 have hsof : ∀ w,(Go.sizeOf 82).run Tryz.prog w = .ok 13 w:=fun w => by
  simp [sizeOf,typeInfo,hi,hz1]
 have hov : ∀ W : World,W.heap[b]? = some (.cells cur.toArray 82 (0,0)) -> W.heap[g]? = some (.cells ys.toArray 82 (0,0)) -> ∀ o lb cb,(callFunc 156 #[.slice (some ⟨g,0,none⟩) 1 1,.slice (some ⟨b,o,none⟩) lb cb]).run Tryz.prog W = .ok (.value (.bool false)) W:=fun W hb hg o lb cb => by
  rw [run_callFunc_extern Tryz.func156 (by kernel_rfl) (by kernel_rfl) (by kernel_rfl) (e:=Extern.SlicesOverlaps.overlaps #[22,22] #[4]) (by kernel_rfl),
   Lib.run_overlaps_apart W 22 4 82 Tryz.underlying22 13 hsof ⟨g,0,none⟩ ⟨b,o,none⟩ 1 1 lb cb hgb 82 82 ys.toArray.size cur.toArray.size (by simp [World.shape?,hg]) (by simp [World.shape?,hb]) (by rw [List.size_toArray,hcur];omega) (by simp [World.frozen?,hg]) (by simp [World.frozen?,hg])]
  rfl
 have hov1:=hov w hb hg;have hni : ¬ (n = i):=by omega
 have hci : ¬ (c = i):=by omega
 have hci1 : ¬ (c = i + 1):=by omega
 have hnci : ¬ ((c : Int) < (n : Int) + 1):=by omega
 have hw1 : IntKind.i64.wrap ((i : Int) + 1) = (i : Int) + 1:=by rw [IntKind.wrap_i64];omega
 have hw2 : IntKind.i64.wrap ((n : Int) + 1) = (n : Int) + 1:=by rw [IntKind.wrap_i64];omega
 have hb1 : (0 : Int) <= (i : Int) + 1:=by omega
 have hb2 : (0 : Int) <= (n : Int) + 1:=by omega
 have htn : ((i : Int) + 1).toNat = i + 1:=by omega
 have htn2 : ((n : Int) + 1).toNat = n + 1:=by omega
 have hb3 : (i : Int) <= (n : Int):=by omega
 have hb4 : (i : Int) + 1 <= (n : Int) + 1:=by omega
 have hb5 : (n : Int) + 1 <= (c : Int):=by omega
 have hb6 : (i : Int) <= (n : Int) + 1:=by omega
 have hz2' : ¬ ((i : Int) = (n : Int)):=by omega
 obtain ⟨X2,hX2⟩ : ∃ X2,X2 = xs.drop (i * 13):=⟨_,rfl⟩
 have hX2l : X2.length = (n - i) * 13:=by rw [hX2,List.length_drop,hxl];omega
 have hmB : X2.length = Nat.min (n + 1 - i) (n + 1 - (i + 1)) * 13:=by rw [hX2l,show Nat.min (n + 1 - i) (n + 1 - (i + 1)) = n - i from by rw [show n + 1 - (i + 1) = n - i by omega];exact Nat.min_eq_right (by omega)]
 have hfB : (i + 1) * 13 + X2.length <= cur.length:=by rw [hX2l,hcur];omega
 have h1B : ∀ u ∈ X2,u.oneCell' = true:=fun u hu => h1x u (List.mem_of_mem_drop (by rw [<- hX2];exact hu))
 have hsB : ∀ j u,X2[j]? = some u -> w.drew.cell? ((⟨b,i * 13,none⟩ : Addr).add j) = some u:=fun j u hj => hcell w.drew b cur hb (i * 13) j u (by
  rw [hX2,<- hx,List.getElem?_drop,List.getElem?_take] at hj;rw [List.getElem?_drop];split at hj
  ·exact hj
  ·cases hj)
 have hmA : ys.length = Nat.min 1 (n + 1 - i) * 13:=by rw [hy,show Nat.min 1 (n + 1 - i) = 1 from Nat.min_eq_left (by omega)]
 obtain ⟨R1,hR1⟩ : ∃ R1,R1 = splice cur ((i + 1) * 13) X2:=⟨_,rfl⟩
 have hR1l : R1.length = c * 13:=by rw [hR1,length_splice _ _ _ hfB,hcur]
 have hfA : i * 13 + ys.length <= R1.length:=by rw [hR1l,hy];omega
 have HF:=Lh (show (splice R1 (i * 13) ys).length = c * 13 /\ (splice R1 (i * 13) ys).take ((n + 1) * 13) = xs.take (i * 13) ++ ys ++ xs.drop (i * 13) from by
  refine ⟨by rw [length_splice _ _ _ hfA,hR1l],?_⟩;have h:=splice_mid cur ys X2 (i * 13) (by rw [hy];omega);rw [hy] at h;rw [hR1,show (i + 1) * 13 = i * 13 + 13 by omega,show (n + 1) * 13 = i * 13 + 13 + X2.length by rw [hX2l];omega,h,<- hX2,<- hx,List.take_take,Nat.min_eq_left (by omega)])
 have HB:=Lh hb;have HG:=Lh hg;have HC:=Lh hcell;have HSB:=Lh hsB;have HM:=Lh (And.intro hcur hx);have HX:=Lh (And.intro hxl hX2);clear hb hg hcell hsof hov hcur hx hxl hX2 hX2l hsB hR1l;go_enter Tryz.func82,Tryz.ntmps82;go_wp2_with (simp only [hov1]);go_region_law (refine step_copy_rowk rfl (.tmp 73) (.tmp 76) 22 22 rfl 82 13 Tryz.underlying22 hsz b ((i + 1) * 13) (n + 1 - (i + 1)) (c - (i + 1)) ⟨b,i * 13,none⟩ (n + 1 - i) (c - i) (by simp [Act.eval,Act.put]) (by simp [Act.eval,Act.put]) cur 82 HB.out X2 hmB HSB.out hfB h1B ?_;intro W2 hR2 hB2)
 have HG2:=Lh (show W2.heap[g]? = some (.cells ys.toArray 82 (0,0)) from (hB2.out.block g hgw (by simpa using hgb)).trans HG.out);have hR2:=Lh (show W2.heap[b]? = some (.cells R1.toArray 82 (0,0)) from by rw [hR1];exact hR2.out);clear hR1;go_wp2_with (refine wpList_copy_rowk rfl (.tmp 80) (.tmp 81) 22 22 rfl 82 13 Tryz.underlying22 hsz b (i * 13) (n + 1 - i) (c - i) ⟨g,0,none⟩ 1 1 rfl rfl R1 82 hR2.out ys hmA (fun j u hj => HC.out W2 g ys HG2.out 0 j u (by simpa using hj)) hfA h1y ?_);intro W3 hR3 hB3;go_wp2_with fail;go_ret;have hkN : ∀ k,some k ≠ some b -> k ≠ b:=fun k h e => h (by rw [e])
 refine ⟨_,rfl,⟨by rw [List.length_append,List.length_append,List.length_take,List.length_drop,hy,HX.out.1];omega,.inr ⟨b,c,_,rfl,hbb,hR3.out,hnc,hcm,by simpa using HF.out.1,by simpa using HF.out.2⟩⟩,⟨hB3.out.os.trans hB2.out.os,hB3.out.tape.trans hB2.out.tape,hB3.out.output.trans hB2.out.output,Nat.le_trans hB2.out.size hB3.out.size,fun k hk hne => (hB3.out.block k (Nat.lt_of_lt_of_le hk hB2.out.size) hne).trans (hB2.out.block k hk hne)⟩,.inl rfl⟩
theorem insert82 (base : Nat) (v : Value) (n i g : Nat) (xs ys : List Value) (w : World) (hown : w.ownsRow base 82 13 v n xs) (hi : i <= n) (hn : n <= 1000000) (hbase : base <= w.heap.size)
  (hg : w.heap[g]? = some (.cells ys.toArray 82 (0,0))) (hgb : v.ownBlock ≠ some g) (hy : ys.length = 13) (h1y : ∀ u ∈ ys,u.oneCell' = true) (h1x : ∀ u ∈ xs,u.oneCell' = true) :
  Calls Tryz.prog 82 #[v,.int .i64 i,.slice (some ⟨g,0,none⟩) 1 1] w (Inserted base v w n (xs.take (i * 13) ++ ys ++ xs.drop (i * 13))):=by
 have hxl:=hown.1;by_cases he : i = n
 ·subst he;rw [<- hxl,List.take_length,List.drop_length,List.append_nil];exact insert82_end base v i g xs ys w hown hn hbase hg hy h1y
 ·rcases hown.2 with ⟨_,h0⟩ | ⟨b,cap,cur,rfl,h2,h3,h4,h5,h6,h7⟩
  ·omega
  ·by_cases hc : cap = n
   ·subst hc;have hl : cur.toList.length = cap * 13:=by rw [Array.length_toList];exact h6
    exact insert82_grow base b cap i g cur.toList xs ys w h3 hl (by rw [<- h7,<- hl,List.take_length]) (by omega) hn hbase hg hy h1y h1x
   ·exact insert82_shift base b n cap i g cur.toList xs ys w h3 (by rw [Array.length_toList];exact h6) h7 (by omega) (by omega) h5 h2 hg (fun h => hgb (by rw [h];rfl)) hy h1y h1x
def RefT (lo : Nat) (w : World) (t : Ev × Value × Value) : Prop:=EvB t.1 /\ RowI lo w t.2.1 t.1.days.ex /\ RowI lo w t.2.2 t.1.days.xt
structure RowT (lo : Nat) (w : World) (v : Value) (ts : List (Ev × Value × Value)) : Prop where
 row : w.ownsRow lo 82 13 v ts.length (tCells ts)
 ref : ∀ t ∈ ts,RefT lo w t
theorem RefT.s {lo : Nat} {w : World} {t : Ev × Value × Value} (h : RefT lo w t) : RefS w.heap.size w t:=by
 obtain ⟨hg,hx,hy⟩:=h;obtain ⟨ax,cx,e1,i1⟩:=hx.ints;obtain ⟨ay,cy,e2,i2⟩:=hy.ints;exact ⟨hg,⟨ax,cx,e1,i1⟩,⟨ay,cy,e2,i2⟩⟩
theorem RowT.seg {lo : Nat} {w : World} {v : Value} {ts : List (Ev × Value × Value)} (h : RowT lo w v ts) : ∃ ao c,v = .slice ao ts.length c /\ (ao = none -> c = 0) /\ Seg w.heap.size w ao ts:=by
 have hr : ∀ t ∈ ts,RefS w.heap.size w t:=fun t ht => (h.ref t ht).s
 rcases h.row.2 with ⟨hv,h0⟩ | ⟨g,cap,cur,hv,r2,r3,r4,r5,_⟩
 ·have : ts = []:=List.eq_nil_of_length_eq_zero h0;subst this;exact ⟨none,0,hv,fun _ => rfl,Seg.nil _ _ _⟩
 ·refine ⟨_,cap,hv,fun e => (by cases e),.inr ⟨g,0,rfl,(Array.getElem?_eq_some_iff.1 r3).1,fun j u hj => ?_⟩,hr⟩;have:=h.row.cells (g:=g) (by rw [hv];rfl) j u hj;rw [Addr.add_lit] at this;exact this
theorem RowT.nil (lo : Nat) (w : World) : RowT lo w (.slice none 0 0) []:=⟨World.ownsRow_nil _ _ _ _,fun t h => by cases h⟩
theorem RefT.mono {lo lo' : Nat} {w : World} {t : Ev × Value × Value} (h : RefT lo w t) (hb : lo' <= lo) : RefT lo' w t:=⟨h.1,ownsRow_mono h.2.1 hb,ownsRow_mono h.2.2 hb⟩
theorem RowT.mono {lo lo' : Nat} {w : World} {v : Value} {ts : List (Ev × Value × Value)} (h : RowT lo w v ts) (hb : lo' <= lo) : RowT lo' w v ts:=⟨ownsRow_mono h.row hb,fun t ht => (h.ref t ht).mono hb⟩
theorem RefT.made {lo : Nat} {w w' : World} {t : Ev × Value × Value} (h : RefT lo w t) (hb : Below w.heap.size w w') : RefT lo w' t:=⟨h.1,row_made h.2.1 hb,row_made h.2.2 hb⟩
theorem RowT.made {lo : Nat} {w w' : World} {v : Value} {ts : List (Ev × Value × Value)} (h : RowT lo w v ts) (hb : Below w.heap.size w w') : RowT lo w' v ts:=⟨row_made h.row hb,fun t ht => (h.ref t ht).made hb⟩
theorem RefT.set {lo : Nat} {w : World} {t : Ev × Value × Value} (h : RefT lo w t) {g : Nat} {cs : Array Value} {ty : TypeId} (hg : Blk g cs ty w) (hte : ty ≠ 3) (i : Nat) (u : Value) : RefT lo (w.setCell ⟨g,i,none⟩ u) t:=⟨h.1,row_set h.2.1 hg hte i u,row_set h.2.2 hg hte i u⟩
theorem RowT.set {lo : Nat} {w : World} {v : Value} {ts : List (Ev × Value × Value)} (h : RowT lo w v ts) {g : Nat} {cs : Array Value} {ty : TypeId} (hg : Blk g cs ty w) (hte : ty ≠ 3) (hte2 : ty ≠ 82) (i : Nat) (u : Value) : RowT lo (w.setCell ⟨g,i,none⟩ u) v ts:=⟨row_set h.row hg hte2 i u,fun t ht => (h.ref t ht).set hg hte i u⟩
theorem RefT.alloc {lo : Nat} {w : World} {t : Ev × Value × Value} (h : RefT lo w t) (o : Obj) : RefT lo (w.alloc o) t:=⟨h.1,World.ownsRow.alloc h.2.1 o,World.ownsRow.alloc h.2.2 o⟩
theorem RowT.alloc {lo : Nat} {w : World} {v : Value} {ts : List (Ev × Value × Value)} (h : RowT lo w v ts) (o : Obj) : RowT lo (w.alloc o) v ts:=⟨h.row.alloc o,fun t ht => (h.ref t ht).alloc o⟩
theorem RefT.grown {lo B n k : Nat} {w w' : World} {t : Ev × Value × Value} {v : Value} {xs : List Value} (h : RefT lo w t) (hown : w.ownsRow B 82 k v n xs) (hg : w.grownBy w' v.ownBlock) : RefT lo w' t :=
 ⟨h.1,World.ownsRow.kept h.2.1 hg (row_apart_ty h.2.1 hown (by decide)),World.ownsRow.kept h.2.2 hg (row_apart_ty h.2.2 hown (by decide))⟩
theorem RowT.one {lo : Nat} {w : World} {v : Value} {ts : List (Ev × Value × Value)} (h : RowT lo w v ts) : ∀ u ∈ tCells ts,u.oneCell' = true:=by
 obtain ⟨ao,c,_,_,hs⟩:=h.seg;exact hs.one
theorem tCells_sole (t : Ev × Value × Value) : tCells [t] = (evCells t.1 t.2.1 t.2.2).toList:=by unfold tCells;simp
theorem RowT.changed {lo : Nat} {w w' : World} {v v' : Value} {ts us : List (Ev × Value × Value)} (h : RowT lo w v ts) (hg : w.grownBy w' v.ownBlock) (hu : ∀ t ∈ us,t ∈ ts ∨ RefT lo w t) (hrow : w'.ownsRow lo 82 13 v' us.length (tCells us)) : RowT lo w' v' us :=
 ⟨hrow,fun t ht => (hu t ht).elim (fun k => (h.ref t k).grown h.row hg) (fun k => k.grown h.row hg)⟩
theorem tCells_ins (ts : List (Ev × Value × Value)) (t : Ev × Value × Value) (i : Nat) (hi : i <= ts.length) : (tCells ts).take (i * 13) ++ (evCells t.1 t.2.1 t.2.2).toList ++ (tCells ts).drop (i * 13) = tCells (ts.take i ++ t :: ts.drop i):=by
 rw [<- tCells_take ts i hi,<- tCells_drop ts i hi,tCells_app,show t :: ts.drop i = [t] ++ ts.drop i from rfl,tCells_app,tCells_sole,List.append_assoc]
theorem RowT.ins {lo : Nat} {w w' : World} {v v' : Value} {ts : List (Ev × Value × Value)} {t : Ev × Value × Value} (h : RowT lo w v ts) (ht : RefT lo w t) (hg : w.grownBy w' v.ownBlock) (i : Nat) (hi : i <= ts.length)
  (hrow : w'.ownsRow lo 82 13 v' (ts.length + 1) ((tCells ts).take (i * 13) ++ (evCells t.1 t.2.1 t.2.2).toList ++ (tCells ts).drop (i * 13))) : RowT lo w' v' (ts.take i ++ t :: ts.drop i):=by
 refine h.changed hg (fun s hs => ?_) ?_
 ·rcases List.mem_append.1 hs with k | k
  ·exact .inl (List.mem_of_mem_take k)
  ·rcases List.mem_cons.1 k with rfl | k
   ·exact .inr ht
   ·exact .inl (List.mem_of_mem_drop k)
 ·rw [<- tCells_ins ts t i hi];have : (ts.take i ++ t :: ts.drop i).length = ts.length + 1:=by simp;omega
  rw [this];exact hrow
theorem RowT.snoc {lo : Nat} {w w' : World} {v v' : Value} {ts : List (Ev × Value × Value)} {t : Ev × Value × Value} (h : RowT lo w v ts) (ht : RefT lo w t) (hg : w.grownBy w' v.ownBlock)
  (hrow : w'.ownsRow lo 82 13 v' (ts.length + 1) (tCells ts ++ (evCells t.1 t.2.1 t.2.2).toList)) : RowT lo w' v' (ts ++ [t]):=by
 refine h.changed hg (fun s hs => ?_) ?_
 ·rcases List.mem_append.1 hs with k | k
  ·exact .inl k
  ·rw [List.mem_singleton.1 k];exact .inr ht
 ·rw [tCells_snoc,List.length_append];exact hrow
theorem below_grownBy {B B' k n : Nat} {w0 w w' : World} {e : TypeId} {v : Value} {xs : List Value} (hb : Below B w0 w) (hown : w.ownsRow B' e k v n xs) (hB : B <= B') (hs : B <= w.heap.size) (hg : w.grownBy w' v.ownBlock) : Below B w0 w':=by
 refine hb.trans ⟨hg.os,hg.tape,hg.output,hg.size,fun j hj => hg.block j (by omega) (fun he => ?_)⟩;have:=(hown.lt j he.symm).1;omega
theorem ownsRow_setAll {lo k n c : Nat} {e : TypeId} {g : Nat} : ∀ (us : List Value) (j : Nat) (xs : List Value) (w : World),w.ownsRow lo e k (.slice (some ⟨g,0,none⟩) n c) n xs -> j + us.length <= n * k ->
  (setAll w g j us).ownsRow lo e k (.slice (some ⟨g,0,none⟩) n c) n (xs.take j ++ us ++ xs.drop (j + us.length)) /\ w.grownBy (setAll w g j us) (some g)
 | [],j,xs,w,h,_ => by
  simp only [List.append_nil,List.length_nil,Nat.add_zero,List.take_append_drop];exact ⟨h,World.grownBy.refl w _⟩
 | u :: r,j,xs,w,h,hl => by
  have hx:=h.1;have h1:=h.stored j u;have h2:=ownsRow_setAll r (j + 1) (xs.set j u) (w.setCell ⟨g,j,none⟩ u) h1.1 (by simp at hl ⊢;omega);have e1:=list_seg_step xs j u r (by simp at hl;omega);rw [e1] at h2;exact ⟨h2.1,h1.2.trans h2.2⟩
theorem RowT.store {lo n c g : Nat} {w : World} {ts : List (Ev × Value × Value)} (h : RowT lo w (.slice (some ⟨g,0,none⟩) n c) ts) (hn : ts.length = n) (i : Nat) (e : Ev) (v v' : Value) (hi : i < n) (hr : RefT lo w (e,v,v')) :
  ∃ W,W = ((((((((((((w.setCell ⟨g,i * 13,none⟩ (.string e.uid)).setCell ⟨g,i * 13 + 1,none⟩ (.int .i64 e.seq)).setCell ⟨g,i * 13 + 2,none⟩ (.bool e.canc)).setCell ⟨g,i * 13 + 3,none⟩ (.int .i64 e.days.first)).setCell ⟨g,i * 13 + 4,none⟩ (.int .i64 e.days.last)).setCell ⟨g,i * 13 + 5,none⟩ (.int .i64 e.days.every)).setCell ⟨g,i * 13 + 6,none⟩ (.int .i64 e.days.wd)).setCell ⟨g,i * 13 + 7,none⟩ v).setCell ⟨g,i * 13 + 8,none⟩ v').setCell ⟨g,i * 13 + 9,none⟩ (.int .i64 e.start)).setCell ⟨g,i * 13 + 10,none⟩ (.int .i64 e.mins)).setCell ⟨g,i * 13 + 11,none⟩ (.string e.summ)).setCell ⟨g,i * 13 + 12,none⟩ (.string e.loc) /\
   RowT lo W (.slice (some ⟨g,0,none⟩) n c) (ts.set i (e,v,v')) /\ w.grownBy W (some g):=by
 subst hn;have hl : (evCells e v v').toList.length = 13:=rfl;have h1:=ownsRow_setAll (evCells e v v').toList (i * 13) (tCells ts) w h.row (by rw [hl];omega);refine ⟨setAll w g (i * 13) (evCells e v v').toList,rfl,h.changed h1.2 (fun s hs => ?_) ?_,h1.2⟩
 ·rcases List.mem_or_eq_of_mem_set hs with k | rfl
  ·exact .inl k
  ·exact .inr hr
 ·have hset : ts.set i (e,v,v') = ts.take i ++ (e,v,v') :: ts.drop (i + 1):=by rw [List.set_eq_take_append_cons_drop,if_pos hi]
  rw [List.length_set,hset,tCells_app,show (e,v,v') :: ts.drop (i + 1) = [(e,v,v')] ++ ts.drop (i + 1) from rfl,tCells_app,tCells_sole,tCells_take ts i (by omega),tCells_drop ts (i + 1) (by omega),<- List.append_assoc];have h2:=h1.1;rw [hl] at h2;rw [show (i + 1) * 13 = i * 13 + 13 by omega];exact h2
theorem RowT.ev {lo n c g : Nat} {w : World} {ts : List (Ev × Value × Value)} (h : RowT lo w (.slice (some ⟨g,0,none⟩) n c) ts) (j : Nat) (t : Ev × Value × Value) (ht : ts[j]? = some t) : EvC g (j * 13) t.1 t.2.1 t.2.2 w:=by
 have h0:=seg_c (w:=w) (b:=g) (o:=0) (ts:=ts) (fun j u hj => by
  have:=h.row.cells (g:=g) rfl j u hj;rw [Addr.add_lit] at this;exact this) j t ht
 rw [Nat.zero_add] at h0;exact h0
theorem atB_of {t : Tt.Trm} {k d : Int} (h1 : Tt.trmV t = 0) (h2 : 1 <= k /\ k <= t.weeks /\ 0 <= d /\ d < 7) : Tt.atB t k d = !decide (Tt.atD t k d ∈ t.hols):=by
 unfold Tt.atB;rw [decide_eq_true ⟨h1,h2⟩,Bool.true_and]
theorem atB_no {t : Tt.Trm} {k d : Int} (h : ¬ (Tt.trmV t = 0 /\ 1 <= k /\ k <= t.weeks /\ 0 <= d /\ d < 7)) : Tt.atB t k d = false:=by
 unfold Tt.atB;rw [decide_eq_false h,Bool.false_and]
theorem ret_at {a b : Int} {c d : Bool} (h1 : a = b) (h2 : c = d) : Ending.returned (.tuple #[.int .i64 a,.bool c]) = .returned (.tuple #[.int .i64 b,.bool d]):=by rw [h1,h2]
theorem at144 (t : Tt.Trm) (ao : Option Addr) (c : Nat) (B : Nat) (k d : Int) (w : World) (hB : B <= w.heap.size) (hI : Ints B w ao t.hols) (hn : t.hols.length <= 4611686018427387903) : Calls Tryz.prog 144 #[trmVal t (.slice ao t.hols.length c),.int .i64 k,.int .i64 d] w fun e w' => e = .returned (.tuple #[.int .i64 (if Tt.atB t k d = true then Tt.atD t k d else 0),.bool (Tt.atB t k d)]) /\ Below w.heap.size w w':=by
  obtain ⟨A,hA⟩ : ∃ A,A = Tt.atB t k d:=⟨_,rfl⟩
  rw [<- hA];have HA:=Lh hA;clear hA;obtain ⟨V,hV⟩ : ∃ V : Int,V = if A = true then Tt.atD t k d else 0:=⟨_,rfl⟩
  rw [<- hV];have HV:=Lh hV;clear hV;obtain ⟨P,hP⟩ : ∃ P,P = w.heap.size:=⟨_,rfl⟩
  obtain ⟨W,hW⟩ : ∃ W,W = w.alloc (.cells #[.int .i64 t.first,.int .i64 t.weeks,.slice ao t.hols.length c] 93):=⟨_,rfl⟩
  have HBW:=Lh (show Below w.heap.size w W from by rw [hW];exact below_box w _);have HPW:=Lh (show Blk P #[.int .i64 t.first,.int .i64 t.weeks,.slice ao t.hols.length c] 93 W from by rw [hW,hP];exact Blk.new w _ _);have HIW:=Lh (show Ints B W ao t.hols from hI.below (HBW.out.mono hB));have hBW : B <= W.heap.size:=Nat.le_trans hB HBW.out.size;have HC1:=Lh (show ∀ X,Below W.heap.size W X -> Calls Tryz.prog 125 #[.agg #[.int .i64 t.first,.int .i64 t.weeks,.slice ao t.hols.length c]] X fun e w' => e = .returned (.int .i64 (Tt.trmV t)) /\ Below X.heap.size X w' from fun X hX => trm125 t ao c B X (Nat.le_trans hBW hX.size) (HIW.out.below (hX.mono hBW)) hn);have HC2:=Lh (show ∀ (x : Int) X,Below W.heap.size W X -> Calls Tryz.prog 219 #[.agg #[.int .i64 t.first,.int .i64 t.weeks,.slice ao t.hols.length c],.int .i64 x] X fun e w' => e = .returned (.bool (!decide (x ∈ t.hols))) /\ Below X.heap.size X w' from fun x X hX => free219 t ao c B x X (Nat.le_trans hBW hX.size) (HIW.out.below (hX.mono hBW)) hn);unfold trmVal;clear hI hB hBW hn;have c0 : W.cell? ⟨P,0,none⟩ = some (.int .i64 t.first):=HPW.out.cell 0;have c1 : W.cell? ⟨P,1,none⟩ = some (.int .i64 t.weeks):=HPW.out.cell 1;have c2 : W.cell? ⟨P,2,none⟩ = some (.slice ao t.hols.length c):=HPW.out.cell 2;obtain ⟨T,hT⟩ : ∃ T,T = Tt.trmV t:=⟨_,rfl⟩
  rw [<- hT] at HC1;have HT:=Lh hT;clear hT;go_enter Tryz.func144,Tryz.ntmps144;go_upto_region 1 with (fail);rw [<- hW,<- hP];clear hW hP;go_wp2_with fail;refine (HC1.out _ (Below.refl _ _)).mono ?_;rintro e w1 ⟨rfl,hb1⟩;have HB1:=Lh hb1;clear hb1 c0 c1 c2;have c0 : w1.cell? ⟨P,0,none⟩ = some (.int .i64 t.first):=(HPW.out.below HB1.out HPW.out.lt).cell 0;have c1 : w1.cell? ⟨P,1,none⟩ = some (.int .i64 t.weeks):=(HPW.out.below HB1.out HPW.out.lt).cell 1;have c2 : w1.cell? ⟨P,2,none⟩ = some (.slice ao t.hols.length c):=(HPW.out.below HB1.out HPW.out.lt).cell 2;have HF1:=Lh (HBW.out.trans (HB1.out.mono HBW.out.size));by_cases hT0 : T = 0
  rotate_left
  · have hb : (T != 0) = true:=by simp [hT0]
    have HA0:=Lh (show A = false from by rw [HA.out];exact atB_no (fun h => hT0 (HT.out.trans h.1)));clear hT0;go_wp2_with fail;go_ret2;exact ⟨ret_at (by rw [HV.out,HA0.out];rfl) HA0.out.symm,HF1.out⟩
  have hb : (T != 0) = false:=by simp [hT0]
  obtain ⟨f0,f1,k0,k1,l1, -⟩:=Tt.trmV_ok (HT.out.symm.trans hT0);have HT0:=Lh hT0;clear hT0;have HLT:=Lh (show Tt.lastT t = t.first + 7 * t.weeks - 1 from rfl);by_cases hk : 1 <= k /\ k <= t.weeks /\ 0 <= d /\ d < 7
  rotate_left
  · have HA0:=Lh (show A = false from by rw [HA.out];exact atB_no (fun h => hk h.2));go_wp2_with fail
    all_goals first
      | (exfalso;omega)
      | (go_ret2
         exact ⟨ret_at (by rw [HV.out,HA0.out];rfl) HA0.out.symm,HF1.out⟩)
  have HK:=Lh hk;obtain ⟨g0,g1,g2,g3⟩:=hk;have HAD:=Lh (show Tt.atD t k d = t.first + 7 * (k - 1) + d from rfl);have HA1:=Lh (show A = !decide (t.first + 7 * (k - 1) + d ∈ t.hols) from by rw [HA.out];exact atB_of (HT.out.symm.trans HT0.out) HK.out);clear l1;go_wp2_with fail;refine (HC2.out _ _ HB1.out).mono ?_;rintro e w2 ⟨rfl,hb2⟩;have HF2:=Lh (HF1.out.trans (hb2.mono HF1.out.size));clear hb2 c0 c1 c2;obtain ⟨M,hM⟩ : ∃ M,M = decide (t.first + 7 * (k - 1) + d ∈ t.hols):=⟨_,rfl⟩
  rw [<- hM] at HA1 ⊢;clear hM;cases M
  · go_wp2_with fail;go_ret2;exact ⟨ret_at (by rw [HV.out,HA1.out];exact HAD.out.symm) (by rw [HA1.out];rfl),HF2.out⟩
  · go_wp2_with fail;go_ret2;exact ⟨ret_at (by rw [HV.out,HA1.out];rfl) (by rw [HA1.out];rfl),HF2.out⟩
theorem days73 (t : Tt.Trm) (x : Tt.Tim) (ao : Option Addr) (c : Nat) (B : Nat) (w : World) (hB : B <= w.heap.size) (hI : Ints B w ao t.hols) (hn : t.hols.length <= 4611686018427387903) (hx0 : 0 <= x.weeks) (hx1 : x.weeks < 4611686018427387904) : Calls Tryz.prog 73 #[trmVal t (.slice ao t.hols.length c),timVal x] w fun e w' => ∃ v,e = .returned v /\ RowI w.heap.size w' v (Tt.daysK t x 20) /\ Below w.heap.size w w':=by
 obtain ⟨i0,hi,hz0,hz1,hz2⟩:=info_parts infoInt;obtain ⟨P,hP⟩ : ∃ P,P = w.heap.size:=⟨_,rfl⟩
 obtain ⟨Q,hQ⟩ : ∃ Q,Q = w.heap.size + 1:=⟨_,rfl⟩
 obtain ⟨W,hW⟩ : ∃ W,W = (w.alloc (.cells #[.int .i64 t.first,.int .i64 t.weeks,.slice ao t.hols.length c] 93)).alloc (.cells #[.int .i64 x.weeks,.int .i64 x.day,.int .i64 x.start,.int .i64 x.len] 105):=⟨_,rfl⟩
 have HBW:=Lh (show Below w.heap.size w W from by rw [hW];exact (below_box w _).trans ((below_box _ _).mono (by simp)));have HPW:=Lh (show Blk P #[.int .i64 t.first,.int .i64 t.weeks,.slice ao t.hols.length c] 93 W from by rw [hW,hP];exact (Blk.new w _ _).alloc _);have HQW:=Lh (show Blk Q #[.int .i64 x.weeks,.int .i64 x.day,.int .i64 x.start,.int .i64 x.len] 105 W from by rw [hW,hQ];exact Blk.new' _ _ _ (by simp));have hWs : w.heap.size <= W.heap.size:=HBW.out.size;have hPl : P < W.heap.size:=HPW.out.lt;have hQl : Q < W.heap.size:=HQW.out.lt;have HIW:=Lh (show Ints B W ao t.hols from hI.below (HBW.out.mono hB));have hBW : B <= W.heap.size:=Nat.le_trans hB HBW.out.size;have HC:=Lh (show ∀ (k d : Int) X,Below W.heap.size W X -> Calls Tryz.prog 144 #[.agg #[.int .i64 t.first,.int .i64 t.weeks,.slice ao t.hols.length c],.int .i64 k,.int .i64 d] X fun e w' => e = .returned (.tuple #[.int .i64 (if Tt.atB t k d = true then Tt.atD t k d else 0),.bool (Tt.atB t k d)]) /\ Below X.heap.size X w' from fun k d X hX => at144 t ao c B k d X (Nat.le_trans hBW hX.size) (HIW.out.below (hX.mono hBW)) hn);have HBN:=Lh (fun k : Int => bit_not x.weeks k hx0 hx1);unfold trmVal timVal;clear hI hB hBW hn;go_enter Tryz.func73,Tryz.ntmps73;go_upto_region 1 with (fail);rw [<- hW,<- hQ,<- hP];clear hW hP hQ;go_wp2_with fail;go_loopw [5,9] (fun rv iv wr => ∃ k : Nat,k <= 20 /\ iv = .int .i64 k /\ Hid (RowI W.heap.size wr rv (Tt.daysK t x k)) /\ Hid (Below W.heap.size W wr)) (fun _ iv _ => 30 - (intOf iv).toNat)
 case atStart => exact ⟨0,by omega,rfl,Lh (RowI.nil _ _),Lh (Below.refl _ _)⟩
 case round =>
  obtain ⟨k,hk,rfl,HR,HB⟩:=hrel;by_cases hlt : k < 20
  rotate_left
  ·have hki : ¬ ((k : Int) < 20):=by omega
   obtain rfl : k = 20:=by omega
   go_wp2_with fail;go_ret;exact ⟨_,rfl,ownsRow_mono HR.out HBW.out.size,HBW.out.trans (HB.out.mono HBW.out.size)⟩
  have hki : (k : Int) < 20:=by omega
  have hk0 : (0 : Int) <= (k : Int):=by omega
  have hk20 : (k : Int) < 20:=by omega
  have q0 : wr.cell? ⟨Q,0,none⟩ = some (.int .i64 x.weeks):=(HQW.out.below HB.out HQW.out.lt).cell 0;have q1 : wr.cell? ⟨Q,1,none⟩ = some (.int .i64 x.day):=(HQW.out.below HB.out HQW.out.lt).cell 1;have q2 : wr.cell? ⟨Q,2,none⟩ = some (.int .i64 x.start):=(HQW.out.below HB.out HQW.out.lt).cell 2;have q3 : wr.cell? ⟨Q,3,none⟩ = some (.int .i64 x.len):=(HQW.out.below HB.out HQW.out.lt).cell 3;have c0 : wr.cell? ⟨P,0,none⟩ = some (.int .i64 t.first):=(HPW.out.below HB.out HPW.out.lt).cell 0;have c1 : wr.cell? ⟨P,1,none⟩ = some (.int .i64 t.weeks):=(HPW.out.below HB.out HPW.out.lt).cell 1;have c2 : wr.cell? ⟨P,2,none⟩ = some (.slice ao t.hols.length c):=(HPW.out.below HB.out HPW.out.lt).cell 2;have hxn : ¬ x.weeks < 0:=by omega
  have hbn:=HBN.out (k : Int);rw [show ((k : Int)).toNat = k from Int.toNat_natCast k] at hbn;obtain ⟨b,hb⟩ : ∃ b,b = Tt.bit x.weeks (k : Int):=⟨_,rfl⟩
  rw [<- hb] at hbn;have HBT:=Lh hb;clear hb;cases b
  ·have hbn : (bits .and .i64 (x.weeks / 2 ^ k) 1 == 0) = true:=hbn;have HK:=Lh (show Tt.daysK t x (k + 1) = Tt.daysK t x k from by rw [Tt.daysK,if_neg (fun h => by rw [<- HBT.out] at h;cases h.1)]);go_wp2_with fail;go_roundw
   case rel => exact ⟨k + 1,by omega,by go_num,Lh (by rw [HK.out];exact HR.out),HB⟩
   case measure => simp [intOf];omega
  ·have hbn : (bits .and .i64 (x.weeks / 2 ^ k) 1 == 0) = false:=hbn;go_wp2_with fail;refine (HC.out ((k : Int) + 1) x.day _ HB.out).mono ?_;rintro e w1 ⟨rfl,hb1⟩;have HB1:=Lh (HB.out.trans (hb1.mono HB.out.size));have HR1:=Lh (ownsRow_below HR.out hb1);clear hb1 HB HR q0 q1 q2 q3 c0 c1 c2;obtain ⟨A,hA⟩ : ∃ A,A = Tt.atB t ((k : Int) + 1) x.day:=⟨_,rfl⟩
   rw [<- hA];have HA:=Lh hA;clear hA;cases A
   ·have HK:=Lh (show Tt.daysK t x (k + 1) = Tt.daysK t x k from by rw [Tt.daysK,if_neg (fun h => by rw [<- HA.out] at h;cases h.2)]);go_wp2_with fail;go_roundw
    case rel => exact ⟨k + 1,by omega,by go_num,Lh (by rw [HK.out];exact HR1.out),HB1⟩
    case measure => simp [intOf];omega
   ·have HK:=Lh (show Tt.daysK t x (k + 1) = Tt.daysK t x k ++ [Tt.atD t ((k : Int) + 1) x.day] from by rw [Tt.daysK,if_pos ⟨HBT.out.symm,HA.out.symm⟩]);have hdl:=Tt.daysK_len t x k;have hw1s : W.heap.size <= w1.heap.size:=HB1.out.size;obtain ⟨D,hD⟩ : ∃ D,D = Tt.atD t ((k : Int) + 1) x.day:=⟨_,rfl⟩
    obtain ⟨L,hL⟩ : ∃ L,L = Tt.daysK t x k:=⟨_,rfl⟩
    rw [<- hD,<- hL] at HK;rw [<- hL] at HR1 hdl;rw [if_pos rfl,<- hD];clear hD hL;obtain ⟨pr,cr,hv⟩:=RowI.slice HR1.out;subst hv;go_wp2_with (at_builtin;refine wpList_append_own_at _ rfl (.tmp 33) (.tmp 35) 27 rfl W.heap.size 3 i0 (.int .i64 0) 1 8 Tryz.underlying27 hi hz0 hz1 hz2 rfl (by decide) _ _ _ rfl (World.ownsRow.alloc HR1.out _) ⟨w1.heap.size,0,none⟩ 1 1 [.int .i64 D] rfl rfl (cell_one _ _ _) (by intro u hu;simp at hu;subst hu;rfl) (by unfold maxLen;omega) (by omega) (by simp;omega) ?_);intro v' x8 hown8 hgrow _ hat;have HB8:=Lh (below_grownBy (HB1.out.trans ((below_box w1 _).mono HB1.out.size)) (World.ownsRow.alloc HR1.out _) (Nat.le_refl _) (by simp;omega) hgrow);have HR8:=Lh (show RowI W.heap.size x8 v' (Tt.daysK t x (k + 1)) from by rw [HK.out];exact RowI.snoc hown8);clear hgrow hown8 hat;go_wp2_with fail;go_roundw
    case rel => exact ⟨k + 1,by omega,by go_num,HR8,HB8⟩
    case measure => simp [intOf];omega
open Go.RowKit Go.Maps
theorem keyI : Keyed Tryz.prog 3:=int_keyed Tryz.underlying3
theorem bool_inv {e : TypeId} (he : Tryz.prog.underlying e = some .bool) {v : Value} {z : DataW Unit × List MemPlace} (h : plainElem Tryz.prog e v = some z) : ∃ b,v = .bool b /\ z = (.lit (.bool b),[]):=by
 unfold plainElem at h;rw [he] at h;cases v <;> simp at h
 case bool b => exact ⟨b,rfl,h.symm⟩
def MapS (b : Nat) (xs : List Int) (w : World) : Prop:=∃ (D : DataW Unit),w.ownsMap Tryz.prog 3 (plainElem Tryz.prog 4) b xs.length D /\ IsMap D /\ ∀ x : Int,D.atKey (.int .i64 x) (.lit (.bool false)) = .lit (.bool (decide (x ∈ xs)))
theorem MapS.new (w : World) : MapS w.heap.size [] (w.alloc (.map #[] 0)) :=
 ⟨.map [],World.ownsMap_made _ _ _ _,isMap_empty,fun x => by rfl⟩
theorem MapS.lt {b : Nat} {xs : List Int} {w : World} (h : MapS b xs w) : b < w.heap.size:=by obtain ⟨D,h1,_⟩:=h;exact h1.lt
theorem MapS.block {b : Nat} {xs : List Int} {w w' : World} (h : MapS b xs w) (hw : w'.heap[b]? = w.heap[b]?) : MapS b xs w':=by
 obtain ⟨D,⟨es,clock,h1,h2,h3,h4⟩,h5,h6⟩:=h;exact ⟨D,⟨es,clock,hw.trans h1,h2,h3,h4⟩,h5,h6⟩
theorem wf_i64 {x : Int} (h0 : -9223372036854775808 <= x) (h1 : x <= 9223372036854775807) : (Lit.int .i64 x).wf = true:=by
 simp [Lit.wf,IntKind.min,IntKind.max,IntKind.signed,IntKind.bits];omega
theorem zeroB (w : World) : (zeroValue 4).run Tryz.prog w = .ok (.bool false) w:=by kernel_rfl
theorem MapS.look {b : Nat} {xs : List Int} {w : World} (h : MapS b xs w) {t : TypeId} (ht : Tryz.prog.underlying t = some (.map 3 4)) (x : Int) (h0 : -9223372036854775808 <= x) (h1 : x <= 9223372036854775807) :
  (Instr.lookup t (.map (some b)) (.int .i64 x) false).run Tryz.prog w = .ok (.bool (decide (x ∈ xs))) w:=by
 obtain ⟨D,hD,hm,hx⟩:=h;obtain ⟨v,ps,hrun,hv⟩:=hD.lookup keyI ht (zeroB w) (plainElem_bool Tryz.underlying4 false) (keyOf_int_mk Tryz.underlying3 (wf_i64 h0 h1));obtain ⟨c,rfl,hc⟩:=bool_inv Tryz.underlying4 hv;rw [hx x] at hc;simp only [Prod.mk.injEq,DataW.lit.injEq,Lit.bool.injEq] at hc;rw [hrun,hc.1]
theorem MapS.put {b : Nat} {xs : List Int} {w' : World} (x : Int) {D : DataW Unit} (hm : IsMap D) (hx : ∀ x : Int,D.atKey (.int .i64 x) (.lit (.bool false)) = .lit (.bool (decide (x ∈ xs)))) (hw : w'.ownsMap Tryz.prog 3 (plainElem Tryz.prog 4) b (xs.length + 1) (D.put (.int .i64 x) (.lit (.bool true)))) : MapS b (xs ++ [x]) w':=by
 refine ⟨_,by rw [List.length_append];exact hw,hm.put _ _,fun y => ?_⟩;by_cases hy : y = x
 ·subst hy;rw [atKey_put_same hm (by simp [WideAt.IsKeyLit])];simp
 ·rw [atKey_put_other (by simp [hy]),hx y];simp [hy]
end Go.Proofs.YtageielcdebjlaaGreatDoor
namespace Tt
open Go.Lib (decDigits decDigits_one decDigits_two)
def d2 (n : Nat) : List UInt8:=[UInt8.ofNat (48 + n / 10),UInt8.ofNat (48 + n % 10)]
def d4 (n : Nat) : List UInt8:=[UInt8.ofNat (48 + n / 1000),UInt8.ofNat (48 + n / 100 % 10),UInt8.ofNat (48 + n / 10 % 10),UInt8.ofNat (48 + n % 10)]
theorem dec_step {n : Nat} (h : ¬ n < 10) : decDigits n = decDigits (n / 10) ++ [UInt8.ofNat (48 + n % 10)]:=by rw [decDigits.eq_def n,dif_neg h]
theorem dec_len : ∀ (k n : Nat),n < 10 ^ (k + 1) -> (decDigits n).length <= k + 1
 | 0,n,h => by rw [decDigits_one (by simpa using h)];simp
 | k + 1,n,h => by
  by_cases h1 : n < 10
  ·rw [decDigits_one h1];simp
  ·rw [dec_step h1,List.length_append];have:=dec_len k (n / 10) (by rw [Nat.div_lt_iff_lt_mul (by omega)];rw [Nat.pow_succ] at h;exact h);simp;omega
end Tt
namespace Go.Proofs.YtageielcdebjlaaGreatDoor
open Go.RowKit
def Pow (w : World) : Prop:=∃ t fr,w.heap[6]? = some (.cells (Lib.pow10Tab.map fun z => Value.int .u64 z).toArray t fr)
theorem Pow.below {B : Nat} {w w' : World} (h : Pow w) (hB : 6 < B) (hb : Below B w w') : Pow w':=by
 obtain ⟨t,fr,h⟩:=h;exact ⟨t,fr,(hb.block 6 hB).trans h⟩
theorem itoa136 (n : Int) (w : World) (hP : Pow w) (h0 : 0 <= n) (h1 : n <= 4611686018427387903) : Calls Tryz.prog 136 #[.int .i64 n] w fun e w' => e = .returned (.string ⟨(Lib.decDigits n.toNat).toArray⟩) /\ Below w.heap.size w w':=by
 refine (Any.strconv_Itoa Tryz.laysM171 n (by omega) (by omega) w ?_).mono ?_
 ·obtain ⟨t,fr,h⟩:=hP;unfold Lib.TabIs World.var?;generalize hn : Program.globalNamed Tryz.prog _ = o;have ho : o = some 6:=hn.symm.trans (by kernel_rfl);subst ho;simp [h]
 ·rintro e w' ⟨rfl,k,os,rfl⟩;refine ⟨ret_str ?_,Lib.below_grow _ _ (Nat.le_refl _) _ _⟩;unfold Lib.itoa;rw [if_neg (by omega)]
end Go.Proofs.YtageielcdebjlaaGreatDoor
namespace Tt
open Go
theorem or_any0 : ∀ k : Nat,k < 7 -> ∀ v : Nat,v < 128 -> bits BinOp.or IntKind.i64 (v : Int) (2 ^ k : Int) = ((v ||| 2 ^ k : Nat) : Int):=by decide +kernel
theorem or_lt : ∀ k : Nat,k < 7 -> ∀ v : Nat,v < 128 -> v ||| 2 ^ k < 128:=by decide +kernel
end Tt
namespace Go.Proofs.YtageielcdebjlaaGreatDoor
open Go.RowKit
end Go.Proofs.YtageielcdebjlaaGreatDoor
namespace Tt
def fstD (ds : List Int) : Int:=ds.headD 0
def lstD (ds : List Int) : Int:=ds.getLastD 0
def spanN (ds : List Int) : Nat:=(lstD ds - fstD ds + 1).toNat
structure DsOk (ds : List Int) : Prop where
 ne : ds ≠ []
 d : ∀ x ∈ ds,0 <= x /\ x <= 36524
 le : fstD ds <= lstD ds
 sp : lstD ds <= fstD ds + 140
 len : ds.length <= 1000000
theorem DsOk.pos {ds : List Int} (h : DsOk ds) : 0 < ds.length:=List.length_pos_iff.2 h.ne
theorem DsOk.first {ds : List Int} (h : DsOk ds) : ds[0]? = some (fstD ds):=by
 have:=h.ne;cases ds with
 | nil => exact absurd rfl this
 | cons a r => rfl
theorem DsOk.last {ds : List Int} (h : DsOk ds) : ds[ds.length - 1]? = some (lstD ds):=by
 have hn:=h.ne;unfold lstD;rw [List.getLastD_eq_getLast?,List.getLast?_eq_getElem?];have h1 : ds.length - 1 < ds.length:=by have:=h.pos;omega
 rw [List.getElem?_eq_getElem h1];rfl
theorem DsOk.bd {ds : List Int} (h : DsOk ds) : 0 <= fstD ds /\ fstD ds <= 36524 /\ 0 <= lstD ds /\ lstD ds <= 36524:=by
 have h1:=h.d _ (List.mem_of_getElem? h.first);have h2:=h.d _ (List.mem_of_getElem? h.last);omega
theorem DsOk.span {ds : List Int} (h : DsOk ds) : ((spanN ds : Nat) : Int) = lstD ds - fstD ds + 1 /\ spanN ds <= 141:=by
 have h1:=h.le;have h2:=h.sp;unfold spanN;omega
def onB (ds : List Int) (e w d : Int) : Bool:=decide (wk d = w) && cnt (fstD ds) e d
def hitK (ds : List Int) (e w : Int) : Nat -> Int
 | 0 => 0
 | k + 1 => hitK ds e w k + (if onB ds e w (fstD ds + k) = true /\ fstD ds + k ∈ ds then 1 else 0)
def missK (ds : List Int) (e w : Int) : Nat -> Int
 | 0 => 0
 | k + 1 => missK ds e w k + (if onB ds e w (fstD ds + k) = true /\ ¬ fstD ds + k ∈ ds then 1 else 0)
theorem hitK_bd (ds : List Int) (e w : Int) : ∀ k : Nat,0 <= hitK ds e w k /\ hitK ds e w k <= k /\ 0 <= missK ds e w k /\ missK ds e w k <= k
 | 0 => ⟨Int.le_refl _,Int.le_refl _,Int.le_refl _,Int.le_refl _⟩
 | k + 1 => by
  have ih:=hitK_bd ds e w k;rw [hitK,missK];split <;> split <;> omega
def wdK (ds : List Int) (e : Int) : Nat -> Nat
 | 0 => 0
 | j + 1 => if missK ds e j (spanN ds) < hitK ds e j (spanN ds) then wdK ds e j ||| 2 ^ j else wdK ds e j
theorem wdK_lt (ds : List Int) (e : Int) : ∀ j,j <= 7 -> wdK ds e j < 128
 | 0,_ => by show 0 < 128;decide
 | j + 1,h => by
  have ih:=wdK_lt ds e j (by omega);rw [wdK];split
  ·exact or_lt j (by omega) _ ih
  ·exact ih
def exK (ds : List Int) (s : Ser) : Nat -> List Int
 | 0 => []
 | k + 1 => if regB s (s.first + k) = true /\ ¬ s.first + k ∈ ds then exK ds s k ++ [s.first + k] else exK ds s k
def xtK (ds : List Int) (s : Ser) : Nat -> List Int
 | 0 => []
 | k + 1 => if regB s (s.first + k) = false /\ s.first + k ∈ ds then xtK ds s k ++ [s.first + k] else xtK ds s k
theorem exK_len (ds : List Int) (s : Ser) : ∀ k,(exK ds s k).length <= k /\ (xtK ds s k).length <= k
 | 0 => ⟨Nat.le_refl _,Nat.le_refl _⟩
 | k + 1 => by
  have ih:=exK_len ds s k;rw [exK,xtK];constructor
  ·split
   ·rw [List.length_append];simp;omega
   ·omega
  ·split
   ·rw [List.length_append];simp;omega
   ·omega
def headS (ds : List Int) (e m : Int) : Ser:=⟨fstD ds,lstD ds,e,m,[],[]⟩
def serK (ds : List Int) (e m : Int) (k : Nat) : Ser:=⟨fstD ds,lstD ds,e,m,exK ds (headS ds e m) k,xtK ds (headS ds e m) k⟩
def withV (ds : List Int) (e : Int) : Ser:=serK ds e (wdK ds e 7) (spanN ds)
end Tt
namespace Go.Proofs.YtageielcdebjlaaGreatDoor
open Go.RowKit
structure SerM (S lo : Nat) (s : Tt.Ser) (v v' : Value) (w : World) : Prop where
 box : Blk S #[.int .i64 s.first,.int .i64 s.last,.int .i64 s.every,.int .i64 s.wd,v,v'] 80 w
 ex : RowI lo w v s.ex
 xt : RowI lo w v' s.xt
 ap : v.ownBlock = none ∨ v'.ownBlock = none ∨ v.ownBlock ≠ v'.ownBlock
theorem ap_one {a b : Option Nat} (h : a = none ∨ b = none ∨ a ≠ b) : b = none ∨ b ≠ a:=by
 cases a with
 | none => cases b with
  | none => exact .inl rfl
  | some y => exact .inr (fun e => by cases e)
 | some x =>
  rcases h with h | h | h
  ·cases h
  ·exact .inl h
  ·exact .inr (fun e => h e.symm)
theorem ap_two {a b : Option Nat} (h : a = none ∨ b = none ∨ a ≠ b) : a = none ∨ a ≠ b:=by
 rcases h with h | h | h
 ·exact .inl h
 ·cases a with
  | none => exact .inl rfl
  | some x => exact .inr (fun e => by rw [h] at e;cases e)
 ·exact .inr h
section
variable {S lo : Nat} {s : Tt.Ser} {v v' : Value} {w : World}
theorem SerM.made (h : SerM S lo s v v' w) {w' : World} (hb : Below w.heap.size w w') : SerM S lo s v v' w' :=
 ⟨h.box.below hb h.box.lt,ownsRow_below h.ex hb,ownsRow_below h.xt hb,h.ap⟩
theorem own_lt {e k n : Nat} {xs : List Value} (h : w.ownsRow lo e k v n xs) : ∀ g,v.ownBlock = some g -> g < w.heap.size:=fun g hg => (h.lt g hg).2
theorem SerM.addX (h : SerM S lo s v v' w) {d : Int} {v2 : Value} {x : World} (hown : x.ownsRow lo 3 1 v2 (s.ex.length + 1) (s.ex.map (Value.int .i64) ++ [.int .i64 d])) (hg : w.grownBy x v.ownBlock) (hat : v2.ownBlock = v.ownBlock ∨ v2.ownBlock = some w.heap.size) :
  SerM S lo { s with ex:=s.ex ++ [d] } v2 v' (x.setCell ⟨S,4,none⟩ v2):=by
 have hS : Blk S #[.int .i64 s.first,.int .i64 s.last,.int .i64 s.every,.int .i64 s.wd,v,v'] 80 x:=h.box.grown h.ex hg (by decide);have hx : RowI lo x v2 (s.ex ++ [d]):=RowI.snoc hown;have hy : RowI lo x v' s.xt:=World.ownsRow.kept h.xt hg (ap_one h.ap);refine ⟨hS.set 4 v2,row_set hx hS (by decide) 4 v2,row_set hy hS (by decide) 4 v2,?_⟩;rcases hat with e | e
 ·rw [e];exact h.ap
 ·cases hv : v'.ownBlock with
  | none => exact .inr (.inl rfl)
  | some g => refine .inr (.inr ?_);rw [e];intro hh;have:=own_lt h.xt g hv;cases hh;omega
theorem SerM.addY (h : SerM S lo s v v' w) {d : Int} {v2 : Value} {x : World} (hown : x.ownsRow lo 3 1 v2 (s.xt.length + 1) (s.xt.map (Value.int .i64) ++ [.int .i64 d])) (hg : w.grownBy x v'.ownBlock) (hat : v2.ownBlock = v'.ownBlock ∨ v2.ownBlock = some w.heap.size) :
  SerM S lo { s with xt:=s.xt ++ [d] } v v2 (x.setCell ⟨S,5,none⟩ v2):=by
 have hS : Blk S #[.int .i64 s.first,.int .i64 s.last,.int .i64 s.every,.int .i64 s.wd,v,v'] 80 x:=h.box.grown h.xt hg (by decide);have hx : RowI lo x v2 (s.xt ++ [d]):=RowI.snoc hown;have hy : RowI lo x v s.ex:=World.ownsRow.kept h.ex hg (ap_two h.ap);refine ⟨hS.set 5 v2,row_set hy hS (by decide) 5 v2,row_set hx hS (by decide) 5 v2,?_⟩;rcases hat with e | e
 ·rw [e];exact h.ap
 ·cases hv : v.ownBlock with
  | none => exact .inl rfl
  | some g => refine .inr (.inr ?_);rw [e];intro hh;have:=own_lt h.ex g hv;cases hh;omega
end
theorem fill6R {g : Nat} {cs : Array Value} {w0 w : World} (h : Blk g cs 80 w) (hc : cs.size = 6) (hb : Below w0.heap.size w0 w) (hg : w0.heap.size <= g) (u0 u1 u2 u3 u4 u5 : Value) : ∃ Y,Y = ((((((w.setCell ⟨g,0,none⟩ u0).setCell ⟨g,1,none⟩ u1).setCell ⟨g,2,none⟩ u2).setCell ⟨g,3,none⟩ u3).setCell ⟨g,4,none⟩ u4).setCell ⟨g,5,none⟩ u5) /\ Blk g #[u0,u1,u2,u3,u4,u5] 80 Y /\ Below w0.heap.size w0 Y:=by
 refine ⟨_,rfl,?_,?_⟩
 ·obtain ⟨l⟩:=cs;match l,hc with
  | [a0,a1,a2,a3,a4,a5],_ => exact (((((h.set 0 u0).set 1 u1).set 2 u2).set 3 u3).set 4 u4).set 5 u5
 ·have q : ∀ (W : World) (i : Nat) (u : Value),Below w0.heap.size w0 W -> Below w0.heap.size w0 (W.setCell ⟨g,i,none⟩ u):=fun W i u h => h.setCell hg _
  exact q _ _ _ (q _ _ _ (q _ _ _ (q _ _ _ (q _ _ _ (q _ _ _ hb)))))
theorem SerM.new {S lo : Nat} {ds : List Int} {e m : Int} {w : World} (h : Blk S #[.int .i64 (Tt.fstD ds),.int .i64 (Tt.lstD ds),.int .i64 e,.int .i64 m,.slice none 0 0,.slice none 0 0] 80 w) : SerM S lo (Tt.serK ds e m 0) (.slice none 0 0) (.slice none 0 0) w :=
 ⟨h,RowI.nil _ _,RowI.nil _ _,.inl rfl⟩
def RetS (s : Tt.Ser) (w : World) (x : Ending) (w' : World) : Prop:=∃ (p p' : Option Addr) (c c' : Nat),x = .returned (serVal s (.slice p s.ex.length c) (.slice p' s.xt.length c')) /\ RowI w.heap.size w' (.slice p s.ex.length c) s.ex /\ RowI w.heap.size w' (.slice p' s.xt.length c') s.xt /\ Below w.heap.size w w'
end Go.Proofs.YtageielcdebjlaaGreatDoor
namespace Tt
def excN (s : Ser) : Int:=(s.ex.length : Int) + s.xt.length
def bestK (ds : List Int) : Nat -> Ser
 | 0 => withV ds 1
 | k + 1 => if excN (withV ds ((k : Int) + 2)) < excN (bestK ds k) then withV ds ((k : Int) + 2) else bestK ds k
def ofV (ds : List Int) : Ser:=bestK ds 3
theorem with_len (ds : List Int) (h : spanN ds <= 141) (e : Int) : (withV ds e).ex.length <= 141 /\ (withV ds e).xt.length <= 141:=by
 have:=exK_len ds (headS ds e (wdK ds e 7)) (spanN ds);exact ⟨Nat.le_trans this.1 h,Nat.le_trans this.2 h⟩
theorem best_len (ds : List Int) (h : spanN ds <= 141) : ∀ k,(bestK ds k).ex.length <= 141 /\ (bestK ds k).xt.length <= 141
 | 0 => with_len ds h 1
 | k + 1 => by
  rw [bestK];split
  ·exact with_len ds h _
  ·exact best_len ds h k
def AscD (ds : List Int) : Prop:=∀ (k : Nat) (a b : Int),ds[k]? = some a -> ds[k + 1]? = some b -> a < b
end Tt
namespace Go.Proofs.YtageielcdebjlaaGreatDoor
open Go.RowKit
structure SerQ (T lo : Nat) (s : Tt.Ser) (p p' : Option Addr) (c c' : Nat) (w : World) : Prop where
 box : Blk T #[.int .i64 s.first,.int .i64 s.last,.int .i64 s.every,.int .i64 s.wd,.slice p s.ex.length c,.slice p' s.xt.length c'] 80 w
 ex : RowI lo w (.slice p s.ex.length c) s.ex
 xt : RowI lo w (.slice p' s.xt.length c') s.xt
theorem SerQ.made {T lo : Nat} {s : Tt.Ser} {p p' : Option Addr} {c c' : Nat} {w w' : World} (h : SerQ T lo s p p' c c' w) (hb : Below w.heap.size w w') : SerQ T lo s p p' c c' w' :=
 ⟨h.box.below hb h.box.lt,ownsRow_below h.ex hb,ownsRow_below h.xt hb⟩
def RetC (s : Tt.Ser) (cd : Int) (w : World) (x : Ending) (w' : World) : Prop:=∃ (p p' : Option Addr) (c c' : Nat),x = .returned (.tuple #[serVal s (.slice p s.ex.length c) (.slice p' s.xt.length c'),.int .i64 cd]) /\ RowI w.heap.size w' (.slice p s.ex.length c) s.ex /\ RowI w.heap.size w' (.slice p' s.xt.length c') s.xt /\ Below w.heap.size w w'
end Go.Proofs.YtageielcdebjlaaGreatDoor
