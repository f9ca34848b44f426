/- Stretches of events in memory: their cells and what they refer to. No function of the program in sight. Condition: none. An append of a stretch of events to a row of one's own. No function of the program in sight. Condition: none. Copies between rows of structs in memory. No function of the program in sight. Condition: none. -/
import Derived.Test.YtageielcdebjlaaGreatDoorPk9
import Derived.Test.YtageielcdebjlaaGreatDoorProg
import Derived.WalkKit
import Derived.Lib.Hide
import Derived.Deep.QuietTactic
import Derived.BigQuiet
import Derived.Deep.RegionLaw
import Derived.Laws.CopyRow
import Derived.Laws.CopyOwn
import Derived.Laws.IdiomCopy
import Derived.Lib.AppendZerosOnto
import Derived.Lib.Overlaps
import Derived.Maps.AppendAt
import Derived.Laws.Externs
import Derived.Laws.NewBlocks
namespace Go.Proofs.YtageielcdebjlaaGreatDoor
open Go.RowKit

/-- What an event refers to, in blocks below B. -/
def RefS (B : Nat) (w : World) (t : Ev × Value × Value) : Prop := EvB t.1 ∧ SlI B w t.2.1 t.1.days.ex ∧ SlI B w t.2.2 t.1.days.xt
theorem RefS.below {B : Nat} {w w' : World} {t : Ev × Value × Value} (h : RefS B w t) (hw : Below B w w') : RefS B w' t := ⟨h.1, h.2.1.below hw, h.2.2.below hw⟩
theorem RefS.mono {B B' : Nat} {w : World} {t : Ev × Value × Value} (h : RefS B w t) (hB : B ≤ B') : RefS B' w t := ⟨h.1, h.2.1.mono hB, h.2.2.mono hB⟩

/-- A stretch of events from an address on, in blocks below B. -/
structure Seg (B : Nat) (w : World) (ao : Option Addr) (ts : List (Ev × Value × Value)) : Prop where
  at' : ts = [] ∨ ∃ b o, ao = some ⟨b, o, none⟩ ∧ b < B ∧ ∀ (j : Nat) (u : Value), (tCells ts)[j]? = some u → w.cell? ⟨b, o + j, none⟩ = some u
  ref : ∀ t ∈ ts, RefS B w t

theorem Seg.below {B : Nat} {w w' : World} {ao : Option Addr} {ts : List (Ev × Value × Value)} (h : Seg B w ao ts) (hw : Below B w w') : Seg B w' ao ts := by
  refine ⟨?_, fun t ht => (h.ref t ht).below hw⟩
  rcases h.at' with h | ⟨b, o, ha, hb, hc⟩
  · exact .inl h
  · exact .inr ⟨b, o, ha, hb, fun j u hj => (hw.cell (p := ⟨b, o + j, none⟩) hb).trans (hc j u hj)⟩
theorem Seg.mono {B B' : Nat} {w : World} {ao : Option Addr} {ts : List (Ev × Value × Value)} (h : Seg B w ao ts) (hB : B ≤ B') : Seg B' w ao ts := by
  refine ⟨?_, fun t ht => (h.ref t ht).mono hB⟩
  rcases h.at' with h | ⟨b, o, ha, hb, hc⟩
  · exact .inl h
  · exact .inr ⟨b, o, ha, by omega, hc⟩
theorem Seg.nil (B : Nat) (w : World) (ao : Option Addr) : Seg B w ao [] := ⟨.inl rfl, fun t h => by cases h⟩

theorem tCells_app (a b : List (Ev × Value × Value)) : tCells (a ++ b) = tCells a ++ tCells b := by unfold tCells; simp
theorem tCells_take (ts : List (Ev × Value × Value)) (k : Nat) (hk : k ≤ ts.length) : tCells (ts.take k) = (tCells ts).take (k * 13) := by
  have h : tCells ts = tCells (ts.take k) ++ tCells (ts.drop k) := by rw [← tCells_app, List.take_append_drop]
  rw [h, List.take_left' (by rw [tCells_len, List.length_take, Nat.min_eq_left hk])]
theorem tCells_drop (ts : List (Ev × Value × Value)) (k : Nat) (hk : k ≤ ts.length) : tCells (ts.drop k) = (tCells ts).drop (k * 13) := by
  have h : tCells ts = tCells (ts.take k) ++ tCells (ts.drop k) := by rw [← tCells_app, List.take_append_drop]
  rw [h, List.drop_left' (by rw [tCells_len, List.length_take, Nat.min_eq_left hk])]

theorem Seg.take {B : Nat} {w : World} {ao : Option Addr} {ts : List (Ev × Value × Value)} (h : Seg B w ao ts) (k : Nat) (hk : k ≤ ts.length) : Seg B w ao (ts.take k) := by
  refine ⟨?_, fun t ht => h.ref t (List.mem_of_mem_take ht)⟩
  rcases h.at' with h | ⟨b, o, ha, hb, hc⟩
  · exact .inl (by rw [h]; simp)
  · refine .inr ⟨b, o, ha, hb, fun j u hj => hc j u ?_⟩
    rw [tCells_take ts k hk, List.getElem?_take] at hj
    split at hj
    · exact hj
    · cases hj
theorem Seg.drop {B : Nat} {w : World} {b o : Nat} {ts : List (Ev × Value × Value)} (h : Seg B w (some ⟨b, o, none⟩) ts) (k : Nat) (hk : k ≤ ts.length) : Seg B w (some ⟨b, o + k * 13, none⟩) (ts.drop k) := by
  refine ⟨?_, fun t ht => h.ref t (List.mem_of_mem_drop ht)⟩
  rcases h.at' with h | ⟨b', o', ha, hb, hc⟩
  · exact .inl (by rw [h]; simp)
  · cases ha
    refine .inr ⟨b, o + k * 13, rfl, hb, fun j u hj => ?_⟩
    rw [tCells_drop ts k hk, List.getElem?_drop] at hj
    rw [Nat.add_assoc]
    exact hc _ u hj
theorem seg_c {w : World} {b o : Nat} {ts : List (Ev × Value × Value)} (h : ∀ (j : Nat) (u : Value), (tCells ts)[j]? = some u → w.cell? ⟨b, o + j, none⟩ = some u) (j : Nat) (t : Ev × Value × Value) (ht : ts[j]? = some t) : EvC b (o + j * 13) t.1 t.2.1 t.2.2 w := by
  have hc : ∀ i u, i < 13 → (evCells t.1 t.2.1 t.2.2).toList[i]? = some u → w.cell? ⟨b, o + j * 13 + i, none⟩ = some u := fun i u hi hu => by
    rw [Nat.add_assoc]
    exact h (j * 13 + i) u (by rw [tCells_get ts j i t ht hi]; exact hu)
  refine ⟨?_, ?_, ?_, ?_, ?_, ?_, ?_, ?_, ?_, ?_, ?_, ?_, ?_⟩
  · exact hc 0 _ (by omega) rfl
  · exact hc 1 _ (by omega) rfl
  · exact hc 2 _ (by omega) rfl
  · exact hc 3 _ (by omega) rfl
  · exact hc 4 _ (by omega) rfl
  · exact hc 5 _ (by omega) rfl
  · exact hc 6 _ (by omega) rfl
  · exact hc 7 _ (by omega) rfl
  · exact hc 8 _ (by omega) rfl
  · exact hc 9 _ (by omega) rfl
  · exact hc 10 _ (by omega) rfl
  · exact hc 11 _ (by omega) rfl
  · exact hc 12 _ (by omega) rfl
theorem Seg.evs {B : Nat} {w : World} {ao : Option Addr} {ts : List (Ev × Value × Value)} (h : Seg B w ao ts) : Evs B w ao (ts.map (·.1)) := by
  rcases h.at' with h | ⟨b, o, ha, hb, hc⟩
  · exact .inl (by rw [h]; rfl)
  · refine .inr ⟨b, o, ha, hb, fun j e hj => ?_⟩
    obtain ⟨t, ht, he⟩ : ∃ t, ts[j]? = some t ∧ t.1 = e := by
      rw [List.getElem?_map] at hj
      cases h2 : ts[j]? with
      | none => rw [h2] at hj; cases hj
      | some t => rw [h2] at hj; exact ⟨t, rfl, by simpa using hj⟩
    subst he; obtain ⟨r1, r2, r3⟩ := h.ref t (List.mem_of_getElem? ht)
    exact ⟨r1, t.2.1, t.2.2, seg_c hc j t ht, r2, r3⟩
theorem RowE.seg {lo : Nat} {w : World} {v : Value} {ts : List (Ev × Value × Value)} (h : RowE lo w v ts) : ∃ ao c, v = .slice ao ts.length c ∧ Seg w.heap.size w ao ts := by
  have hr : ∀ t ∈ ts, RefS w.heap.size w t := fun t ht => by
    obtain ⟨hg, hx, hy⟩ := h.ref t ht
    obtain ⟨ax, cx, e1, i1⟩ := hx.ints
    obtain ⟨ay, cy, e2, i2⟩ := hy.ints
    exact ⟨hg.b, ⟨ax, cx, e1, i1⟩, ⟨ay, cy, e2, i2⟩⟩
  rcases h.row.2 with ⟨hv, h0⟩ | ⟨g, cap, cur, hv, r2, r3, r4, r5, _⟩
  · have : ts = [] := List.eq_nil_of_length_eq_zero h0
    subst this; exact ⟨none, 0, hv, Seg.nil _ _ _⟩
  · refine ⟨_, cap, hv, .inr ⟨g, 0, rfl, (Array.getElem?_eq_some_iff.1 r3).1, fun j u hj => ?_⟩, hr⟩
    have := h.row.cells (g := g) (by rw [hv]; rfl) j u hj
    rw [Addr.add_lit] at this
    exact this
end Go.Proofs.YtageielcdebjlaaGreatDoor
namespace Go.Proofs.YtageielcdebjlaaGreatDoor
open Go.RowKit

theorem Seg.one {B : Nat} {w : World} {ao : Option Addr} {ts : List (Ev × Value × Value)} (h : Seg B w ao ts) : ∀ u ∈ tCells ts, u.oneCell' = true := by
  intro u hu; unfold tCells at hu
  obtain ⟨t, ht, hut⟩ := List.mem_flatMap.1 hu
  obtain ⟨_, ⟨ax, cx, e1, _⟩, ⟨ay, cy, e2, _⟩⟩ := h.ref t ht
  rw [e1, e2] at hut
  exact evCells_one _ _ _ _ _ _ _ u hut

end Go.Proofs.YtageielcdebjlaaGreatDoor
namespace Go.Proofs.YtageielcdebjlaaGreatDoor
open Go.RowKit

/-- 'copy(dst, src)' of structs of k cells into a row that is known whole. -/
theorem run_copy_rowk (P : Program) (w : World) (dT sT ty elem : TypeId) (k : Nat) (g o dLen dCap : Nat) (a : Addr) (sLen sCap : Nat) (cur : Array Value) (t : TypeId) (cs : List Value)
    (hu : P.underlying dT = some (.slice elem)) (hs : (P.info? elem).map (·.size) = some k)
    (hg : w.heap[g]? = some (.cells cur t (0, 0))) (hn : cs.length = Nat.min sLen dLen * k)
    (hsrc : ∀ j v, cs[j]? = some v → w.cell? (a.add j) = some v) (hfit : o + cs.length ≤ cur.size) (h1 : ∀ v ∈ cs, v.oneCell' = true) :
    (Builtin.copy_ #[dT, sT] ty #[.slice (some ⟨g, o, none⟩) dLen dCap, .slice (some a) sLen sCap]).run P w =
      .ok (goInt (Nat.min sLen dLen)) (w.setRow g (cur.toList.take o ++ cs ++ cur.toList.drop (o + cs.length)).toArray) := by
  have hl := run_loadCells_list (P := P) w a cs hsrc
  have hst := run_storeCells_at P g o t cs 0 cur w hg (by simpa using hfit) h1
  cases hq : P.info? elem with
  | none => simp [hq] at hs
  | some i =>
    have hi : i.size = k := by simpa [hq] using hs
    rw [hn] at hl
    simp [Builtin.copy_, run_underlying hu, Builtin.lenOf, Builtin.firstCells, sizeOf, typeInfo, hq, hi, hl, hst]

theorem splice_end {α : Type} (L ys zs : List α) (p : Nat) (h : p + ys.length + zs.length ≤ L.length) : (splice (splice L p ys) (p + ys.length) zs).take (p + ys.length + zs.length) = L.take p ++ ys ++ zs := by
  have e1 : (splice L p ys).take (p + ys.length) = L.take p ++ ys := by
    unfold splice
    rw [← List.append_assoc, List.take_left' (by simp; omega)]
  unfold splice at e1 ⊢
  rw [e1, ← List.append_assoc, List.take_left' (by simp; omega)]

theorem splice_mid {α : Type} (L ys zs : List α) (p : Nat) (h : p + ys.length + zs.length ≤ L.length) : (splice (splice L (p + ys.length) zs) p ys).take (p + ys.length + zs.length) = L.take p ++ ys ++ zs := by
  have e1 : (splice L (p + ys.length) zs).take p = L.take p := by
    unfold splice
    rw [List.take_append_of_le_length (by simp; omega), List.take_take, Nat.min_eq_left (by omega)]
  have e2 : (splice L (p + ys.length) zs).drop (p + ys.length) = zs ++ L.drop (p + ys.length + zs.length) := by
    unfold splice
    rw [List.drop_left' (by simp; omega)]
  unfold splice at e1 e2 ⊢
  rw [e1, e2, ← List.append_assoc, ← List.append_assoc, List.take_left' (by simp; omega)]

theorem grownBy_setRow (w : World) (g : Nat) (cs : Array Value) : w.grownBy (w.setRow g cs) (some g) := by
  refine ⟨rfl, rfl, rfl, by simp [World.setRow], fun k hk hne => ?_⟩
  exact setRow_other w g k cs (fun h => hne (by rw [h]))

theorem wpList_copy_rowk {P : Program} {w : World} {ops : Array Oper} {rest : List Oper} {o : Oper} {a : Act} {Q : Exit → Act → World → Prop} (hgd : o.guard = none) (d s : Operand) (dT sT : TypeId)
    (ho : o.op = .call { callee := .builtin .copy, args := #[d, s], argTypes := #[dT, sT] }) (elem : TypeId) (k : Nat) (hu : P.underlying dT = some (.slice elem)) (hsz : (P.info? elem).map (·.size) = some k)
    (g off dLen dCap : Nat) (ad : Addr) (sLen sCap : Nat) (hd : a.eval d = .slice (some ⟨g, off, none⟩) dLen dCap) (hs : a.eval s = .slice (some ad) sLen sCap)
    (L : List Value) (t : TypeId) (hg : w.heap[g]? = some (.cells L.toArray t (0, 0))) (cs : List Value) (hn : cs.length = Nat.min sLen dLen * k)
    (hsrc : ∀ j v, cs[j]? = some v → w.cell? (ad.add j) = some v) (hfit : off + cs.length ≤ L.length) (h1 : ∀ v ∈ cs, v.oneCell' = true)
    (h : ∀ w', Hid (w'.heap[g]? = some (.cells (splice L off cs).toArray t (0, 0))) → Hid (w.grownBy w' (some g)) → wpList P ops Q rest (a.put o.dst (goInt (Nat.min sLen dLen))) w') : wpList P ops Q (o :: rest) a w := by
  refine wpList_plain hgd fun K hK => ?_
  have hrun := run_copy_rowk P w dT sT o.type elem k g off dLen dCap ad sLen sCap L.toArray t cs hu hsz hg hn hsrc (by simpa using hfit) h1
  unfold Oper.wp execOp
  simp only [ho, resolve, invoke, builtin, Sem.run_bind, Sem.run_pure, Result.andThen_ok, List.map_toArray, List.map_cons, List.map_nil, hd, hs, hrun]
  exact hK _ _ (h _ (show _ = _ by simpa [splice] using setRow_heap w g _ _ t _ hg) (grownBy_setRow w g _))

theorem step_copy_rowk {P : Program} {ops : Array Oper} {o : Oper} {a : Act} {w : World} {K : Act → World → Prop} {Q : Exit → Act → World → Prop} {E : Prop} (hgd : o.guard = none) (d s : Operand) (dT sT : TypeId)
    (ho : o.op = .call { callee := .builtin .copy, args := #[d, s], argTypes := #[dT, sT] }) (elem : TypeId) (k : Nat) (hu : P.underlying dT = some (.slice elem)) (hsz : (P.info? elem).map (·.size) = some k)
    (g off dLen dCap : Nat) (ad : Addr) (sLen sCap : Nat) (hd : a.eval d = .slice (some ⟨g, off, none⟩) dLen dCap) (hs : a.eval s = .slice (some ad) sLen sCap)
    (L : List Value) (t : TypeId) (hg : w.heap[g]? = some (.cells L.toArray t (0, 0))) (cs : List Value) (hn : cs.length = Nat.min sLen dLen * k)
    (hsrc : ∀ j v, cs[j]? = some v → w.cell? (ad.add j) = some v) (hfit : off + cs.length ≤ L.length) (h1 : ∀ v ∈ cs, v.oneCell' = true)
    (h : ∀ w', Hid (w'.heap[g]? = some (.cells (splice L off cs).toArray t (0, 0))) → Hid (w.grownBy w' (some g)) → K (a.put o.dst (goInt (Nat.min sLen dLen))) w') :
    if Region.wanted o (yielded ops a.tmps) = true then Oper.wp P o a w K Q else E := by
  have hw : Region.wanted o (yielded ops a.tmps) = true := by simp [Region.wanted, hgd]
  rw [if_pos hw]
  have hrun := run_copy_rowk P w dT sT o.type elem k g off dLen dCap ad sLen sCap L.toArray t cs hu hsz hg hn hsrc (by simpa using hfit) h1
  unfold Oper.wp
  simp [execOp, ho, resolve, invoke, builtin, hd, hs, hrun, Result.andThen]
  exact h _ (show _ = _ by simpa [splice] using setRow_heap w g _ _ t _ hg) (by rw [← List.append_assoc]; exact grownBy_setRow w g _)

theorem infoEv1 : (Tryz.prog.info? 82).map (fun i => (i.zero, i.size, i.bytes)) = some (some (.agg #[.string ⟨#[]⟩, .int .i64 0, .bool false, .int .i64 0, .int .i64 0, .int .i64 0, .int .i64 0, .slice none 0 0, .slice none 0 0, .int .i64 0, .int .i64 0, .string ⟨#[]⟩, .string ⟨#[]⟩]), 13, 160) := by kernel_rfl
theorem infoEv0 : ∃ i0 : TypeInfo, Tryz.prog.info? 82 = some i0 ∧ i0.zero = some (.agg #[.string ⟨#[]⟩, .int .i64 0, .bool false, .int .i64 0, .int .i64 0, .int .i64 0, .int .i64 0, .slice none 0 0, .slice none 0 0, .int .i64 0, .int .i64 0, .string ⟨#[]⟩, .string ⟨#[]⟩]) ∧ i0.size = 13 ∧ i0.bytes = 160 := by
  have h := infoEv1; cases hq : Tryz.prog.info? 82 with
  | none => rw [hq] at h; cases h
  | some i =>
    rw [hq] at h
    simp only [Option.map_some, Option.some.injEq, Prod.mk.injEq] at h
    exact ⟨i, rfl, h.1, h.2.1, h.2.2⟩
/-- What slices.Insert of one event leaves. -/
def Inserted (base : Nat) (v : Value) (w : World) (n : Nat) (zs : List Value) (e : Ending) (w' : World) : Prop :=
  ∃ v', e = .returned v' ∧ w'.ownsRow base 82 13 v' (n + 1) zs ∧ w.grownBy w' v.ownBlock ∧ (v'.ownBlock = v.ownBlock ∨ v'.ownBlock = some w.heap.size)

set_option maxHeartbeats 4000000 in
set_option maxRecDepth 100000 in
/-- At the end. -/
theorem insert82_end (base : Nat) (v : Value) (n g : Nat) (xs ys : List Value) (w : World) (hown : w.ownsRow base 82 13 v n xs) (hn : n ≤ 1000000) (hbase : base ≤ w.heap.size)
    (hg : w.heap[g]? = some (.cells ys.toArray 82 (0, 0))) (hy : ys.length = 13) (h1y : ∀ u ∈ ys, u.oneCell' = true) :
    Calls Tryz.prog 82 #[v, .int .i64 n, .slice (some ⟨g, 0, none⟩) 1 1] w (Inserted base v w n (xs ++ ys)) := by
  obtain ⟨i0, hi, hz0, hz1, hz2⟩ := infoEv0; have hgc : ∀ j u, ys[j]? = some u → w.cell? ((⟨g, 0, none⟩ : Addr).add j) = some u := fun j u hj => by
    rw [Addr.add_lit]
    have hlt := (List.getElem?_eq_some_iff.1 hj).1
    simp [World.cell?, hg]
    exact hj
  obtain ⟨base', c, hv⟩ : ∃ base' c, v = .slice base' n c := by
    rcases hown.2 with ⟨h1, h2⟩ | ⟨g0, cap, cur, h1, _⟩
    · exact ⟨none, 0, by rw [h1, h2]⟩
    · exact ⟨_, _, h1⟩
  have hnc : n ≤ c := by
    rcases hown.2 with ⟨h1, h2⟩ | ⟨g0, cap, cur, h1, _, _, h2, _⟩
    · omega
    · rw [hv] at h1; cases h1; exact h2
  have HO := Lib.hid hown; have HC := Lib.hid hgc; have HG := Lib.hid hg; clear hown hgc hg; subst hv; go_enter Tryz.func82, Tryz.ntmps82
  go_wp2_with (at_builtin; refine wpList_append_own_at _ rfl (.tmp 23) (.tmp 24) 22 rfl base 82 i0 _ 13 160 Tryz.underlying22 hi hz0 hz1 hz2 rfl (by decide) _ n xs rfl HO.out ⟨g, 0, none⟩ 1 1 ys rfl hy HC.out h1y (by unfold maxLen; omega) (by omega) hbase ?_)
  all_goals
    intro v' w' h1 h2 _ h4; have H := Lib.hid (And.intro h1 (And.intro h2 h4))
    clear h1 h2 h4; go_wp2_with fail
    go_ret; refine ⟨v', rfl, ?_⟩
    first | exact H.out | (rw [show (Value.slice base' n c).ownBlock = (Value.slice base' n n).ownBlock from by cases base' <;> rfl]; exact H.out)

set_option maxHeartbeats 4000000 in
set_option maxRecDepth 100000 in
/-- Ahead of the end, no room: a new row. -/
theorem insert82_grow (base : Nat) (b n i g : Nat) (cur xs ys : List Value) (w : World) (hb : w.heap[b]? = some (.cells cur.toArray 82 (0, 0))) (hcur : cur.length = n * 13) (hx : cur = xs) (hin : i < n) (hn : n ≤ 1000000) (hbase : base ≤ w.heap.size)
    (hg : w.heap[g]? = some (.cells ys.toArray 82 (0, 0))) (hy : ys.length = 13) (h1y : ∀ u ∈ ys, u.oneCell' = true) (h1x : ∀ u ∈ xs, u.oneCell' = true) :
    Calls Tryz.prog 82 #[.slice (some ⟨b, 0, none⟩) n n, .int .i64 i, .slice (some ⟨g, 0, none⟩) 1 1] w (Inserted base (.slice (some ⟨b, 0, none⟩) n n) w n (xs.take (i * 13) ++ ys ++ xs.drop (i * 13))) := by
  obtain ⟨i0, hi, hz0, hz1, hz2⟩ := infoEv0; subst hx; obtain ⟨z, hz⟩ : ∃ z : Value, z = .agg #[.string ⟨#[]⟩, .int .i64 0, .bool false, .int .i64 0, .int .i64 0, .int .i64 0, .int .i64 0, .slice none 0 0, .slice none 0 0, .int .i64 0, .int .i64 0, .string ⟨#[]⟩, .string ⟨#[]⟩] := ⟨_, rfl⟩
  have hzc : z.cells.size = 13 := by rw [hz]; rfl
  have hsz : (Tryz.prog.info? 82).map (·.size) = some 13 := by rw [hi]; simp [hz1]
  rw [← hz] at hz0
  clear hz; have hbw : b < w.heap.size := (Array.getElem?_eq_some_iff.1 hb).1
  have hgw : g < w.heap.size := (Array.getElem?_eq_some_iff.1 hg).1
  have hcell : ∀ (W : World) (q : Nat) (l : List Value), W.heap[q]? = some (.cells l.toArray 82 (0, 0)) → ∀ p j u, (l.drop p)[j]? = some u → W.cell? ((⟨q, p, none⟩ : Addr).add j) = some u := fun W q l hq p j u hj => by
    rw [Addr.add_lit]
    rw [List.getElem?_drop] at hj
    simp [World.cell?, hq]
    exact hj
  have hkk : (n : Int) + 1 - (i : Int) = ((n + 1 - i : Nat) : Int) := by omega
  have hik : i + (n + 1 - i) = n + 1 := by omega
  have hold : (Builtin.firstCells i0.size i (.slice (some ⟨b, 0, none⟩) i n)).run Tryz.prog w.drew = .ok (cur.take (i * 13)).toArray w.drew := by
    rw [hz1]
    exact run_firstCells_some w.drew 13 i ⟨b, 0, none⟩ i n (cur.take (i * 13)) (by rw [List.length_take]; omega) (fun j v hj => by
      rw [List.getElem?_take] at hj
      split at hj
      · exact hcell w b cur hb 0 j v (by simpa using hj)
      · cases hj)
  have hrz : ∀ ty, (Builtin.append_ #[22, 3] ty #[.slice (some ⟨b, 0, none⟩) i n, .int .i64 ((n : Int) + 1 - (i : Int))]).run Tryz.prog w =
      .ok (.slice (some ⟨w.heap.size, 0, none⟩) (n + 1) (grownCap w (n + 1) n 82)) (w.drew.alloc (.cells ((cur.take (i * 13)).toArray ++ Builtin.zeroCells z.cells (n + 1 - i) ++ Builtin.zeroCells z.cells (grownCap w (n + 1) n 82 - (n + 1))) 82)) := fun ty => by
    have h := Lib.run_append_grow_zeros w 22 3 ty 82 i0 z .i64 .i64 Tryz.underlying22 Tryz.underlying3 hi hz0 (some ⟨b, 0, none⟩) i n (cur.take (i * 13)) hold (n + 1 - i) (by omega) (by omega) (by omega) (by omega) (by rw [hz2]; omega) (by rw [hz2, hik]; exact growslice_fits (by omega) (by omega))
    rw [hik] at h
    rw [hkk]
    exact h
  obtain ⟨G, hG⟩ : ∃ G, G = grownCap w (n + 1) n 82 := ⟨_, rfl⟩
  obtain ⟨ROW, hROW⟩ : ∃ ROW : List Value, ROW = ((cur.take (i * 13)).toArray ++ Builtin.zeroCells z.cells (n + 1 - i) ++ Builtin.zeroCells z.cells (G - (n + 1))).toList := ⟨_, rfl⟩
  obtain ⟨W1, hW1⟩ : ∃ W1, W1 = w.drew.alloc (.cells ROW.toArray 82) := ⟨_, rfl⟩
  have hrz2 : ∀ ty, (Builtin.append_ #[22, 3] ty #[.slice (some ⟨b, 0, none⟩) i n, .int .i64 ((n : Int) + 1 - (i : Int))]).run Tryz.prog w = .ok (.slice (some ⟨w.heap.size, 0, none⟩) (n + 1) G) W1 := fun ty => by
    rw [hrz, hW1, hROW, hG]
  have hGn : n + 1 ≤ G := by rw [hG]; exact grownCap_ge w _ _ _
  have hRl : ROW.length = G * 13 := by
    rw [hROW]
    simp [Builtin.zeroCells, hzc]
    omega
  have hRt : ROW.take (i * 13) = cur.take (i * 13) := by
    rw [hROW]
    rw [Array.toList_append, Array.toList_append, List.append_assoc, List.take_append_of_le_length (by simp; omega)]
    rw [List.take_take, Nat.min_self]
  have hG63 : G ≤ maxLen := by
    rw [hG]
    exact grownCap_le_maxLen w (n + 1) n 82 (by unfold maxLen; omega)
  have hG64 : G ≤ 9223372036854775807 := by unfold maxLen at hG63; omega
  have HW := Lib.hid (show W1.heap[w.heap.size]? = some (.cells ROW.toArray 82 (0, 0)) from by rw [hW1]; exact heap_alloc_new w.drew _)
  have HWg := Lib.hid (show w.grownBy W1 none from by rw [hW1]; have h := World.grownBy_alloc w.drew (.cells ROW.toArray 82) none; exact ⟨h.os, h.tape, h.output, h.size, h.block⟩)
  have HB1 := Lib.hid (show W1.heap[b]? = some (.cells cur.toArray 82 (0, 0)) from (HWg.out.block b hbw (by simp)).trans hb)
  have HG1 := Lib.hid (show W1.heap[g]? = some (.cells ys.toArray 82 (0, 0)) from (HWg.out.block g hgw (by simp)).trans hg)
  have hGi : ¬ (G = i) := by omega
  have hGim : ¬ (G = i + 1) := by omega
  have hni : ¬ (n = i) := by omega
  have hbN : b ≠ w.heap.size := by omega
  have hw1 : IntKind.i64.wrap ((i : Int) + 1) = (i : Int) + 1 := by rw [IntKind.wrap_i64]; omega
  have hb1 : (0 : Int) ≤ (i : Int) + 1 := by omega
  have htn : ((i : Int) + 1).toNat = i + 1 := by omega
  have hb3 : (i : Int) ≤ (n : Int) := by omega
  have hz2' : ¬ ((i : Int) = (n : Int)) := by omega
  have hmA : ys.length = Nat.min 1 (n + 1 - i) * 13 := by rw [hy, show Nat.min 1 (n + 1 - i) = 1 from Nat.min_eq_left (by omega)]
  have hfA : i * 13 + ys.length ≤ ROW.length := by rw [hRl, hy]; omega
  have hmB : (cur.drop (i * 13)).length = Nat.min (n - i) (n + 1 - (i + 1)) * 13 := by rw [List.length_drop, hcur, show Nat.min (n - i) (n + 1 - (i + 1)) = n - i from Nat.min_eq_left (by omega)]; omega
  have hfB : i * 13 + 13 + (cur.drop (i * 13)).length ≤ ROW.length := by rw [hRl, List.length_drop, hcur]; omega
  have h1B : ∀ u ∈ cur.drop (i * 13), u.oneCell' = true := fun u hu => h1x u (List.mem_of_mem_drop hu)
  have hfin : (splice (splice ROW (i * 13) ys) ((i + 1) * 13) (cur.drop (i * 13))).take ((n + 1) * 13) = cur.take (i * 13) ++ ys ++ cur.drop (i * 13) := by
    have h := splice_end ROW ys (cur.drop (i * 13)) (i * 13) (by rw [hy]; exact hfB)
    rw [hy, hRt] at h
    rw [← h, show (i + 1) * 13 = i * 13 + 13 by omega, show (n + 1) * 13 = i * 13 + 13 + (cur.drop (i * 13)).length by rw [List.length_drop, hcur]; omega]
  have HF := Lib.hid (And.intro hfin (show (splice (splice ROW (i * 13) ys) ((i + 1) * 13) (cur.drop (i * 13))).length = G * 13 from by rw [length_splice _ _ _ (by rw [length_splice _ _ _ hfA]; omega), length_splice _ _ _ hfA, hRl]))
  have hfC : (i + 1) * 13 + (cur.drop (i * 13)).length ≤ (splice ROW (i * 13) ys).length := by rw [length_splice _ _ _ hfA]; omega
  clear hfin; have H1 := Lib.hid hrz2; have HC := Lib.hid hcell; have HR := Lib.hid (And.intro hRl hRt)
  have HL := Lib.hid hcur; obtain ⟨N, hN⟩ : ∃ N, N = w.heap.size := ⟨_, rfl⟩
  rw [← hN] at H1 HW hbN
  have HN := Lib.hid hN; clear hrz hrz2 hcell hold hROW hG hRl hRt hW1 hcur hb hg hkk hN; go_enter Tryz.func82, Tryz.ntmps82
  go_wp2_with (first | (at_builtin; refine Lib.wpList_append_run _ rfl _ _ _ _ rfl _ _ rfl rfl _ _ (H1.out _) ?_) | (refine wpList_copy_rowk rfl (.tmp 43) (.tmp 44) 22 22 rfl 82 13 Tryz.underlying22 hsz N (i * 13) (n + 1 - i) (G - i) ⟨g, 0, none⟩ 1 1 rfl rfl ROW 82 HW.out ys hmA (fun j u hj => HC.out W1 g ys HG1.out 0 j u (by simpa using hj)) hfA h1y ?_))
  intro W2 hR2 hB2; have HB2 := Lib.hid (show W2.heap[b]? = some (.cells cur.toArray 82 (0, 0)) from (hB2.out.block b (Array.getElem?_eq_some_iff.1 HB1.out).1 (by simpa using hbN)).trans HB1.out)
  obtain ⟨R1, hR1⟩ : ∃ R1, R1 = splice ROW (i * 13) ys := ⟨_, rfl⟩
  rw [← hR1] at hR2 hfC HF
  obtain ⟨X2, hX2⟩ : ∃ X2, X2 = cur.drop (i * 13) := ⟨_, rfl⟩
  have hsB : ∀ j u, X2[j]? = some u → W2.cell? ((⟨b, i * 13, none⟩ : Addr).add j) = some u := fun j u hj => HC.out W2 b cur HB2.out (i * 13) j u (by rw [← hX2]; exact hj)
  have HSB := Lib.hid hsB; rw [← hX2] at hfC HF hmB h1B
  have HX2 := Lib.hid hX2; clear hR1 hsB hfB hX2; go_wp2_with fail
  go_region_law (refine step_copy_rowk rfl (.tmp 50) (.tmp 53) 22 22 rfl 82 13 Tryz.underlying22 hsz N ((i + 1) * 13) (n + 1 - (i + 1)) (G - (i + 1)) ⟨b, i * 13, none⟩ (n - i) (n - i) (by simp [Act.eval, Act.put]) (by simp [Act.eval, Act.put]) R1 82 hR2.out X2 hmB HSB.out hfC h1B ?_; intro W3 hR3 hB3)
  all_goals
    have H := Lib.hid (And.intro hR3.out hB3.out)
    clear hR3 hB3; go_wp2_with fail
    go_ret; refine ⟨_, rfl, ⟨by rw [List.length_append, List.length_append, List.length_take, List.length_drop, hy, HL.out]; omega, .inr ⟨N, G, _, rfl, by rw [HN.out]; exact hbase, H.out.1, hGn, hG63, by simpa using HF.out.2, by rw [← HX2.out]; simpa using HF.out.1⟩⟩, ⟨H.out.2.os.trans (hB2.out.os.trans HWg.out.os), H.out.2.tape.trans (hB2.out.tape.trans HWg.out.tape), H.out.2.output.trans (hB2.out.output.trans HWg.out.output), Nat.le_trans HWg.out.size (Nat.le_trans hB2.out.size H.out.2.size), fun k hk _ => ?_⟩, .inr (by rw [← HN.out]; rfl)⟩
    have hkN : some k ≠ some N := by rw [HN.out]; intro h; cases h; omega
    exact (H.out.2.block k (Nat.lt_of_lt_of_le hk (Nat.le_trans HWg.out.size hB2.out.size)) hkN).trans ((hB2.out.block k (Nat.lt_of_lt_of_le hk HWg.out.size) hkN).trans (HWg.out.block k hk (by simp)))
set_option maxHeartbeats 4000000 in
set_option maxRecDepth 100000 in
/-- Ahead of the end, there is room: in place. -/
theorem insert82_shift (base : Nat) (b n c i g : Nat) (cur xs ys : List Value) (w : World) (hb : w.heap[b]? = some (.cells cur.toArray 82 (0, 0))) (hcur : cur.length = c * 13) (hx : cur.take (n * 13) = xs) (hin : i < n) (hnc : n + 1 ≤ c) (hcm : c ≤ maxLen) (hbb : base ≤ b)
    (hg : w.heap[g]? = some (.cells ys.toArray 82 (0, 0))) (hgb : g ≠ b) (hy : ys.length = 13) (h1y : ∀ u ∈ ys, u.oneCell' = true) (h1x : ∀ u ∈ xs, u.oneCell' = true) :
    Calls Tryz.prog 82 #[.slice (some ⟨b, 0, none⟩) n c, .int .i64 i, .slice (some ⟨g, 0, none⟩) 1 1] w (Inserted base (.slice (some ⟨b, 0, none⟩) n c) w n (xs.take (i * 13) ++ ys ++ xs.drop (i * 13))) := by
  obtain ⟨i0, hi, hz0, hz1, hz2⟩ := infoEv0; have hsz : (Tryz.prog.info? 82).map (·.size) = some 13 := by rw [hi]; simp [hz1]
  have hbw : b < w.heap.size := (Array.getElem?_eq_some_iff.1 hb).1
  have hgw : g < w.heap.size := (Array.getElem?_eq_some_iff.1 hg).1
  have hc63 : c ≤ 9223372036854775807 := by unfold maxLen at hcm; omega
  have hxl : xs.length = n * 13 := by rw [← hx, List.length_take, hcur]; omega
  have hcell : ∀ (W : World) (q : Nat) (l : List Value), W.heap[q]? = some (.cells l.toArray 82 (0, 0)) → ∀ p j u, (l.drop p)[j]? = some u → W.cell? ((⟨q, p, none⟩ : Addr).add j) = some u := fun W q l hq p j u hj => by
    rw [Addr.add_lit]
    rw [List.getElem?_drop] at hj
    simp [World.cell?, hq]
    exact hj
  have hsof : ∀ w, (Go.sizeOf 82).run Tryz.prog w = .ok 13 w := fun w => by
    simp [sizeOf, typeInfo, hi, hz1]
  have hov : ∀ W : World, W.heap[b]? = some (.cells cur.toArray 82 (0, 0)) → W.heap[g]? = some (.cells ys.toArray 82 (0, 0)) → ∀ o lb cb, (callFunc 156 #[.slice (some ⟨g, 0, none⟩) 1 1, .slice (some ⟨b, o, none⟩) lb cb]).run Tryz.prog W = .ok (.value (.bool false)) W := fun W hb hg o lb cb => by
    rw [run_callFunc_extern Tryz.func156 (by kernel_rfl) (by kernel_rfl) (by kernel_rfl) (e := Extern.SlicesOverlaps.overlaps #[22, 22] #[4]) (by kernel_rfl),
      Lib.run_overlaps_apart W 22 4 82 Tryz.underlying22 13 hsof ⟨g, 0, none⟩ ⟨b, o, none⟩ 1 1 lb cb hgb 82 82 ys.toArray.size cur.toArray.size (by simp [World.shape?, hg]) (by simp [World.shape?, hb]) (by rw [List.size_toArray, hcur]; omega) (by simp [World.frozen?, hg]) (by simp [World.frozen?, hg])]
    rfl
  have hov1 := hov w hb hg; have hni : ¬ (n = i) := by omega
  have hci : ¬ (c = i) := by omega
  have hci1 : ¬ (c = i + 1) := by omega
  have hnci : ¬ ((c : Int) < (n : Int) + 1) := by omega
  have hw1 : IntKind.i64.wrap ((i : Int) + 1) = (i : Int) + 1 := by rw [IntKind.wrap_i64]; omega
  have hw2 : IntKind.i64.wrap ((n : Int) + 1) = (n : Int) + 1 := by rw [IntKind.wrap_i64]; omega
  have hb1 : (0 : Int) ≤ (i : Int) + 1 := by omega
  have hb2 : (0 : Int) ≤ (n : Int) + 1 := by omega
  have htn : ((i : Int) + 1).toNat = i + 1 := by omega
  have htn2 : ((n : Int) + 1).toNat = n + 1 := by omega
  have hb3 : (i : Int) ≤ (n : Int) := by omega
  have hb4 : (i : Int) + 1 ≤ (n : Int) + 1 := by omega
  have hb5 : (n : Int) + 1 ≤ (c : Int) := by omega
  have hb6 : (i : Int) ≤ (n : Int) + 1 := by omega
  have hz2' : ¬ ((i : Int) = (n : Int)) := by omega
  obtain ⟨X2, hX2⟩ : ∃ X2, X2 = xs.drop (i * 13) := ⟨_, rfl⟩
  have hX2l : X2.length = (n - i) * 13 := by rw [hX2, List.length_drop, hxl]; omega
  have hmB : X2.length = Nat.min (n + 1 - i) (n + 1 - (i + 1)) * 13 := by rw [hX2l, show Nat.min (n + 1 - i) (n + 1 - (i + 1)) = n - i from by rw [show n + 1 - (i + 1) = n - i by omega]; exact Nat.min_eq_right (by omega)]
  have hfB : (i + 1) * 13 + X2.length ≤ cur.length := by rw [hX2l, hcur]; omega
  have h1B : ∀ u ∈ X2, u.oneCell' = true := fun u hu => h1x u (List.mem_of_mem_drop (by rw [← hX2]; exact hu))
  have hsB : ∀ j u, X2[j]? = some u → w.drew.cell? ((⟨b, i * 13, none⟩ : Addr).add j) = some u := fun j u hj => hcell w.drew b cur hb (i * 13) j u (by
    rw [hX2, ← hx, List.getElem?_drop, List.getElem?_take] at hj
    rw [List.getElem?_drop]
    split at hj
    · exact hj
    · cases hj)
  have hmA : ys.length = Nat.min 1 (n + 1 - i) * 13 := by rw [hy, show Nat.min 1 (n + 1 - i) = 1 from Nat.min_eq_left (by omega)]
  obtain ⟨R1, hR1⟩ : ∃ R1, R1 = splice cur ((i + 1) * 13) X2 := ⟨_, rfl⟩
  have hR1l : R1.length = c * 13 := by rw [hR1, length_splice _ _ _ hfB, hcur]
  have hfA : i * 13 + ys.length ≤ R1.length := by rw [hR1l, hy]; omega
  have HF := Lib.hid (show (splice R1 (i * 13) ys).length = c * 13 ∧ (splice R1 (i * 13) ys).take ((n + 1) * 13) = xs.take (i * 13) ++ ys ++ xs.drop (i * 13) from by
    refine ⟨by rw [length_splice _ _ _ hfA, hR1l], ?_⟩
    have h := splice_mid cur ys X2 (i * 13) (by rw [hy]; omega)
    rw [hy] at h
    rw [hR1, show (i + 1) * 13 = i * 13 + 13 by omega, show (n + 1) * 13 = i * 13 + 13 + X2.length by rw [hX2l]; omega, h, ← hX2, ← hx, List.take_take, Nat.min_eq_left (by omega)])
  have HB := Lib.hid hb; have HG := Lib.hid hg; have HC := Lib.hid hcell; have HSB := Lib.hid hsB; have HM := Lib.hid (And.intro hcur hx)
  have HX := Lib.hid (And.intro hxl hX2)
  clear hb hg hcell hsof hov hcur hx hxl hX2 hX2l hsB hR1l; go_enter Tryz.func82, Tryz.ntmps82
  go_wp2_with (simp only [hov1])
  go_region_law (refine step_copy_rowk rfl (.tmp 73) (.tmp 76) 22 22 rfl 82 13 Tryz.underlying22 hsz b ((i + 1) * 13) (n + 1 - (i + 1)) (c - (i + 1)) ⟨b, i * 13, none⟩ (n + 1 - i) (c - i) (by simp [Act.eval, Act.put]) (by simp [Act.eval, Act.put]) cur 82 HB.out X2 hmB HSB.out hfB h1B ?_; intro W2 hR2 hB2)
  have HG2 := Lib.hid (show W2.heap[g]? = some (.cells ys.toArray 82 (0, 0)) from (hB2.out.block g hgw (by simpa using hgb)).trans HG.out)
  have hR2 := Lib.hid (show W2.heap[b]? = some (.cells R1.toArray 82 (0, 0)) from by rw [hR1]; exact hR2.out)
  clear hR1; go_wp2_with (refine wpList_copy_rowk rfl (.tmp 80) (.tmp 81) 22 22 rfl 82 13 Tryz.underlying22 hsz b (i * 13) (n + 1 - i) (c - i) ⟨g, 0, none⟩ 1 1 rfl rfl R1 82 hR2.out ys hmA (fun j u hj => HC.out W2 g ys HG2.out 0 j u (by simpa using hj)) hfA h1y ?_)
  intro W3 hR3 hB3; go_wp2_with fail
  go_ret; have hkN : ∀ k, some k ≠ some b → k ≠ b := fun k h e => h (by rw [e])
  refine ⟨_, rfl, ⟨by rw [List.length_append, List.length_append, List.length_take, List.length_drop, hy, HX.out.1]; omega, .inr ⟨b, c, _, rfl, hbb, hR3.out, hnc, hcm, by simpa using HF.out.1, by simpa using HF.out.2⟩⟩, ⟨hB3.out.os.trans hB2.out.os, hB3.out.tape.trans hB2.out.tape, hB3.out.output.trans hB2.out.output, Nat.le_trans hB2.out.size hB3.out.size, fun k hk hne => (hB3.out.block k (Nat.lt_of_lt_of_le hk hB2.out.size) hne).trans (hB2.out.block k hk hne)⟩, .inl rfl⟩
/-- slices.Insert of one event. -/
theorem insert82 (base : Nat) (v : Value) (n i g : Nat) (xs ys : List Value) (w : World) (hown : w.ownsRow base 82 13 v n xs) (hi : i ≤ n) (hn : n ≤ 1000000) (hbase : base ≤ w.heap.size)
    (hg : w.heap[g]? = some (.cells ys.toArray 82 (0, 0))) (hgb : v.ownBlock ≠ some g) (hy : ys.length = 13) (h1y : ∀ u ∈ ys, u.oneCell' = true) (h1x : ∀ u ∈ xs, u.oneCell' = true) :
    Calls Tryz.prog 82 #[v, .int .i64 i, .slice (some ⟨g, 0, none⟩) 1 1] w (Inserted base v w n (xs.take (i * 13) ++ ys ++ xs.drop (i * 13))) := by
  have hxl := hown.1; by_cases he : i = n
  · subst he; rw [← hxl, List.take_length, List.drop_length, List.append_nil]
    exact insert82_end base v i g xs ys w hown hn hbase hg hy h1y
  · rcases hown.2 with ⟨_, h0⟩ | ⟨b, cap, cur, rfl, h2, h3, h4, h5, h6, h7⟩
    · omega
    · by_cases hc : cap = n
      · subst hc; have hl : cur.toList.length = cap * 13 := by rw [Array.length_toList]; exact h6
        exact insert82_grow base b cap i g cur.toList xs ys w h3 hl (by rw [← h7, ← hl, List.take_length]) (by omega) hn hbase hg hy h1y h1x
      · exact insert82_shift base b n cap i g cur.toList xs ys w h3 (by rw [Array.length_toList]; exact h6) h7 (by omega) (by omega) h5 h2 hg (fun h => hgb (by rw [h]; rfl)) hy h1y h1x
end Go.Proofs.YtageielcdebjlaaGreatDoor
