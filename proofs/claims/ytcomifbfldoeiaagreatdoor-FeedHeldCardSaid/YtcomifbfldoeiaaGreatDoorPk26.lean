/- Events in a map that the call makes, by their identifiers (map[string]api.Event), and a set of texts (map[string]bool). No function of the program in sight. Condition: none. feed.same: are two events equal but for their sequence? Events in a map, against ascending lists of events: plain facts on lists of events with their list values. No program in sight. -/
import Derived.Test.YtcomifbfldoeiaaGreatDoorPk13
import Derived.Test.YtcomifbfldoeiaaGreatDoorPk15
import Derived.Maps.RangeWalk
import Derived.Test.YtcomifbfldoeiaaGreatDoorPk11
import Derived.Test.YtcomifbfldoeiaaGreatDoorChgO
import Derived.RegionTactic
import Derived.ChangeAlike
import Derived.BigRegion
import Derived.Test.YtcomifbfldoeiaaGreatDoorPk16
namespace Go.Proofs.YtcomifbfldoeiaaGreatDoor
open Go.RowKit Go.Maps

theorem keyS : Keyed Tryz.prog 9 := string_keyed Tryz.underlying9
def keyL (s : ByteArray) : Lit := .string s.data.toList
theorem keyS_mk {s : ByteArray} (hs : s.size ≤ maxLen) : keyOf Tryz.prog 9 (.string s) = some (keyL s) := by
  simp [keyOf, Tryz.underlying9, mapKey, hs, keyL]
theorem keyL_inj {a b : ByteArray} (h : keyL a = keyL b) : a = b := by
  unfold keyL at h
  injection h with h
  cases a; cases b
  simp only at h
  rw [Array.toList_inj.1 h]
set_option maxRecDepth 100000 in
theorem keyS_inv {key : Value} {kl : Lit} (h : keyOf Tryz.prog 9 key = some kl) : ∃ s : ByteArray, key = .string s ∧ kl = keyL s := by
  simp only [keyOf, Tryz.underlying9] at h
  unfold mapKey at h
  rw [Tryz.underlying9] at h
  cases key <;> simp at h
  rename_i s
  exact ⟨s, rfl, h.2.symm⟩
/-- An event as a value. -/
def evT (t : Ev × Value × Value) : Value := evVal t.1 t.2.1 t.2.2
def EvSh (v : Value) : Prop := ∃ t, v = evT t
open Classical in
noncomputable def Rev (v : Value) : Option (DataW Value × List MemPlace) := if EvSh v then some (.held v, []) else none
theorem rev_mk (t : Ev × Value × Value) : Rev (evT t) = some (.held (evT t), []) := if_pos ⟨t, rfl⟩
theorem rev_inv {v : Value} {y : DataW Value × List MemPlace} (h : Rev v = some y) : (∃ t, v = evT t) ∧ y = (.held v, []) := by
  unfold Rev at h
  split at h
  · rename_i hs
    exact ⟨hs, (Option.some.inj h).symm⟩
  · cases h
def entT (t : Ev × Value × Value) : Lit × DataW Value := (keyL t.1.uid, .held (evT t))
/-- Block b is a map of these events. -/
structure MapE (b : Nat) (w : World) (ts : List (Ev × Value × Value)) : Prop where
  own : ∃ ents, w.ownsMap Tryz.prog 9 Rev b ts.length (.map ents) ∧ ents.Perm (ts.map entT)
  one : ts.Pairwise (fun a c => a.1.uid ≠ c.1.uid)
theorem MapE.new (w : World) : MapE w.heap.size (w.alloc (.map #[] 0)) [] := ⟨⟨[], World.ownsMap_made _ _ _ _, List.Perm.refl _⟩, List.Pairwise.nil⟩
theorem MapE.lt {b : Nat} {w : World} {ts : List (Ev × Value × Value)} (h : MapE b w ts) : b < w.heap.size := by
  obtain ⟨⟨ents, h1, _⟩, _⟩ := h
  exact h1.lt
theorem ownsMap_block {H : Type} {P : Program} {k : TypeId} {R : Value → Option (DataW H × List MemPlace)} {b n : Nat} {D : DataW H} {w w' : World} (h : w.ownsMap P k R b n D) (hw : w'.heap[b]? = w.heap[b]?) : w'.ownsMap P k R b n D := by
  obtain ⟨es, clock, h1, h2⟩ := h; exact ⟨es, clock, hw.trans h1, h2⟩
theorem MapE.block {b : Nat} {w w' : World} {ts : List (Ev × Value × Value)} (h : MapE b w ts) (hw : w'.heap[b]? = w.heap[b]?) : MapE b w' ts := by
  obtain ⟨⟨ents, h1, h2⟩, h3⟩ := h
  exact ⟨⟨ents, ownsMap_block h1 hw, h2⟩, h3⟩
theorem ents_apart {ts : List (Ev × Value × Value)} {ents : List (Lit × DataW Value)} (h3 : ts.Pairwise (fun a c => a.1.uid ≠ c.1.uid)) (h2 : ents.Perm (ts.map entT)) : ents.Pairwise (fun p q => p.1 ≠ q.1) := by
  refine (h2.pairwise_iff (fun {_ _} hne => Ne.symm hne)).2 ?_
  rw [List.pairwise_map]
  exact h3.imp (fun h e => h (keyL_inj e))
theorem at_yes {ts : List (Ev × Value × Value)} {ents : List (Lit × DataW Value)} (h3 : ts.Pairwise (fun a c => a.1.uid ≠ c.1.uid)) (h2 : ents.Perm (ts.map entT)) {t : Ev × Value × Value} (ht : t ∈ ts) (z : DataW Value) : (DataW.map ents).atKey (keyL t.1.uid) z = .held (evT t) :=
  WideAt.atKey_mem z trivial (ents_apart h3 h2) (h2.mem_iff.2 (List.mem_map.2 ⟨t, ht, rfl⟩))
theorem at_no {ts : List (Ev × Value × Value)} {ents : List (Lit × DataW Value)} (h2 : ents.Perm (ts.map entT)) {k : ByteArray} (hk : ∀ t ∈ ts, t.1.uid ≠ k) (z : DataW Value) : (DataW.map ents).atKey (keyL k) z = z := by
  refine WideAt.atKey_none z (fun p hp e => ?_)
  obtain ⟨t, ht, rfl⟩ := List.mem_map.1 (h2.mem_iff.1 hp)
  exact hk t ht (keyL_inj e)
theorem has_yes {ts : List (Ev × Value × Value)} {ents : List (Lit × DataW Value)} (h2 : ents.Perm (ts.map entT)) {t : Ev × Value × Value} (ht : t ∈ ts) : Maps.has (DataW.map ents) (keyL t.1.uid) = true := by
  rw [has_eq, List.any_eq_true]
  exact ⟨entT t, h2.mem_iff.2 (List.mem_map.2 ⟨t, ht, rfl⟩), WideAt.sameKey_self trivial⟩
theorem has_no {ts : List (Ev × Value × Value)} {ents : List (Lit × DataW Value)} (h2 : ents.Perm (ts.map entT)) {k : ByteArray} (hk : ∀ t ∈ ts, t.1.uid ≠ k) : Maps.has (DataW.map ents) (keyL k) = false := by
  rw [has_eq, List.any_eq_false]
  intro p hp e; obtain ⟨t, ht, rfl⟩ := List.mem_map.1 (h2.mem_iff.1 hp)
  exact hk t ht (keyL_inj (WideAt.sameKey_eq e))
def zeroT : Ev × Value × Value := (evN, .slice none 0 0, .slice none 0 0)
theorem zeroE82 (w : World) : (zeroValue 104).run Tryz.prog w = .ok (evT zeroT) w := by kernel_rfl
theorem held_inj {ps : List MemPlace} {a v : Value} (h : Rev v = some (.held a, ps)) : v = a := by
  have := (rev_inv h).2
  simp only [Prod.mk.injEq, DataW.held.injEq] at this
  exact this.1.symm
theorem MapE.look {b : Nat} {w : World} {ts : List (Ev × Value × Value)} (h : MapE b w ts) {t : Ev × Value × Value} (ht : t ∈ ts) (hs : t.1.uid.size ≤ maxLen) : (Instr.lookup 163 (.map (some b)) (.string t.1.uid) false).run Tryz.prog w = .ok (evT t) w := by
  obtain ⟨⟨ents, h1, h2⟩, h3⟩ := h
  obtain ⟨v, ps, hrun, hv⟩ := h1.lookup keyS Tryz.underlying163 (zeroE82 w) (rev_mk zeroT) (keyS_mk hs)
  rw [at_yes h3 h2 ht] at hv
  rw [hrun, held_inj hv]
theorem MapE.look_yes {b : Nat} {w : World} {ts : List (Ev × Value × Value)} (h : MapE b w ts) {t : Ev × Value × Value} (ht : t ∈ ts) (hs : t.1.uid.size ≤ maxLen) : (Instr.lookup 163 (.map (some b)) (.string t.1.uid) true).run Tryz.prog w = .ok (.tuple #[evT t, .bool true]) w := by
  obtain ⟨⟨ents, h1, h2⟩, h3⟩ := h
  obtain ⟨v, ps, hrun, hv⟩ := h1.look_ok keyS Tryz.underlying163 (zeroE82 w) (rev_mk zeroT) (keyS_mk hs)
  rw [at_yes h3 h2 ht] at hv
  rw [hrun, held_inj hv, has_yes h2 ht]
theorem MapE.look_no {b : Nat} {w : World} {ts : List (Ev × Value × Value)} (h : MapE b w ts) {k : ByteArray} (hk : ∀ t ∈ ts, t.1.uid ≠ k) (hs : k.size ≤ maxLen) : (Instr.lookup 163 (.map (some b)) (.string k) true).run Tryz.prog w = .ok (.tuple #[evT zeroT, .bool false]) w := by
  obtain ⟨⟨ents, h1, h2⟩, h3⟩ := h
  obtain ⟨v, ps, hrun, hv⟩ := h1.look_ok keyS Tryz.underlying163 (zeroE82 w) (rev_mk zeroT) (keyS_mk hs)
  rw [at_no h2 hk] at hv
  rw [hrun, held_inj hv, has_no h2 hk]
theorem MapE.len {b : Nat} {w : World} {ts : List (Ev × Value × Value)} (h : MapE b w ts) (ty : TypeId) : (Builtin.len_ #[163] ty #[.map (some b)]).run Tryz.prog w = .ok (.int .i64 ts.length) w := by
  obtain ⟨⟨ents, h1, h2⟩, h3⟩ := h
  rw [h1.len Tryz.underlying163 ty, size_eq, h2.length_eq, List.length_map]
/-- The events, one laid in the place of that with its identifier. -/
def putM (ts : List (Ev × Value × Value)) (t : Ev × Value × Value) : List (Ev × Value × Value) := t :: ts.filter (fun u => !decide (u.1.uid = t.1.uid))
theorem putM_one {ts : List (Ev × Value × Value)} {t : Ev × Value × Value} (h3 : ts.Pairwise (fun a c => a.1.uid ≠ c.1.uid)) : (putM ts t).Pairwise (fun a c => a.1.uid ≠ c.1.uid) := by
  refine List.pairwise_cons.2 ⟨fun u hu e => ?_, h3.sublist List.filter_sublist⟩
  have := (List.mem_filter.1 hu).2
  rw [e] at this
  simp at this
theorem tight {H : Type} {P : Program} {k : TypeId} {R : Value → Option (DataW H × List MemPlace)} {b n : Nat} {D : DataW H} {w : World} (h : w.ownsMap P k R b n D) : w.ownsMap P k R b (Maps.size D) D := by
  obtain ⟨es, clock, h1, h2, h3, rfl⟩ := h; exact ⟨es, clock, h1, h2, by simp [Maps.size, length_sorted], rfl⟩
set_option maxRecDepth 100000 in
theorem MapE.put {b : Nat} {w : World} {ts : List (Ev × Value × Value)} (h : MapE b w ts) (t : Ev × Value × Value) (hs : t.1.uid.size ≤ maxLen) (hn : ts.length < maxLen) : ∃ w', (Instr.mapUpdate 163 (.map (some b)) (.string t.1.uid) (evT t)).run Tryz.prog w = .ok () w' ∧ MapE b w' (putM ts t) ∧ w.mapTurned w' b := by
  obtain ⟨⟨ents, h1, h2⟩, h3⟩ := h
  obtain ⟨w', hrun, h4, h5⟩ := h1.store keyS Tryz.underlying163 hn (keyS_mk hs) (rev_mk t)
  rw [DataW.put_eq] at h4
  have hp : (ChangeMaps.putKey (keyL t.1.uid) (.held (evT t)) ents).Perm ((putM ts t).map entT) := by
    refine (WideShapes.insert_perm _ _).trans ?_
    show (entT t :: _).Perm (entT t :: _)
    refine List.Perm.cons _ ?_
    have e : (ts.filter (fun u => !decide (u.1.uid = t.1.uid))).map entT = (ts.map entT).filter (ChangeMaps.notKey (keyL t.1.uid)) := by
      rw [List.filter_map]
      congr 1
      refine List.filter_congr fun u _ => ?_
      show _ = !(keyL u.1.uid).sameKey (keyL t.1.uid)
      congr 1
      by_cases hu : u.1.uid = t.1.uid
      · rw [hu, WideAt.sameKey_self (show WideAt.IsKeyLit (keyL t.1.uid) from trivial)]; simp
      · rw [sameKey_ne (fun e => hu (keyL_inj e))]; simp [hu]
    rw [e]
    exact h2.filter _
  refine ⟨w', hrun, ⟨⟨_, ?_, hp⟩, putM_one h3⟩, h5⟩
  have h6 := tight h4; rw [size_eq, hp.length_eq, List.length_map] at h6
  exact h6
/-- Is a text among some? -/
def memB (x : ByteArray) (xs : List ByteArray) : Bool := xs.any (fun u => decide (u = x))
/-- Block b is a map that holds these texts (map[string]bool). -/
def MapT (b : Nat) (xs : List ByteArray) (w : World) : Prop := ∃ (D : DataW Unit), w.ownsMap Tryz.prog 9 (plainElem Tryz.prog 4) b xs.length D ∧ IsMap D ∧ ∀ x : ByteArray, D.atKey (keyL x) (.lit (.bool false)) = .lit (.bool (memB x xs))
theorem MapT.new (w : World) : MapT w.heap.size [] (w.alloc (.map #[] 0)) := ⟨.map [], World.ownsMap_made _ _ _ _, isMap_empty, fun x => by rfl⟩
theorem MapT.lt {b : Nat} {xs : List ByteArray} {w : World} (h : MapT b xs w) : b < w.heap.size := by obtain ⟨D, h1, _⟩ := h; exact h1.lt
theorem MapT.block {b : Nat} {xs : List ByteArray} {w w' : World} (h : MapT b xs w) (hw : w'.heap[b]? = w.heap[b]?) : MapT b xs w' := by
  obtain ⟨D, h1, h2, h3⟩ := h; exact ⟨D, ownsMap_block h1 hw, h2, h3⟩
theorem MapT.look {b : Nat} {xs : List ByteArray} {w : World} (h : MapT b xs w) (x : ByteArray) (hs : x.size ≤ maxLen) :
    (Instr.lookup 218 (.map (some b)) (.string x) false).run Tryz.prog w = .ok (.bool (memB x xs)) w := by
  obtain ⟨D, hD, hm, hx⟩ := h; obtain ⟨v, ps, hrun, hv⟩ := hD.lookup keyS Tryz.underlying218 (zeroB w) (plainElem_bool Tryz.underlying4 false) (keyS_mk hs)
  obtain ⟨c, rfl, hc⟩ := bool_inv Tryz.underlying4 hv
  rw [hx x] at hc
  simp only [Prod.mk.injEq, DataW.lit.injEq, Lit.bool.injEq] at hc
  rw [hrun, hc.1]
theorem MapT.put {b : Nat} {xs : List ByteArray} {w : World} (h : MapT b xs w) (x : ByteArray) (hs : x.size ≤ maxLen) (hn : xs.length < maxLen) : ∃ w', (Instr.mapUpdate 218 (.map (some b)) (.string x) (.bool true)).run Tryz.prog w = .ok () w' ∧ MapT b (xs ++ [x]) w' ∧ w.mapTurned w' b := by
  obtain ⟨D, hD, hm, hx⟩ := h; obtain ⟨w', hrun, h4, h5⟩ := hD.store keyS Tryz.underlying218 hn (keyS_mk hs) (plainElem_bool Tryz.underlying4 true)
  refine ⟨w', hrun, ⟨_, by rw [List.length_append]; exact h4, hm.put _ _, fun y => ?_⟩, h5⟩
  by_cases hy : y = x
  · subst hy; rw [atKey_put_same hm (show WideAt.IsKeyLit (keyL y) from trivial)]
    simp [memB]
  · rw [atKey_put_other (fun e => hy (keyL_inj e)), hx y]
    simp [memB, Ne.symm hy]
/-- A map that has turned: all other blocks are as they were. -/
theorem turned_other {w w' : World} {b k : Nat} (h : w.mapTurned w' b) (hk : k ≠ b) : w'.heap[k]? = w.heap[k]? := by
  obtain ⟨es, clock, es', clock', hb, rfl⟩ := h; exact ChangeMaps.heap_setBlock_other hb _ hk
theorem turned_below {w w' : World} {b B : Nat} (h : w.mapTurned w' b) (hB : B ≤ b) : Below B w w' := by
  have hg := h.grown; exact ⟨hg.os, hg.tape, hg.output, hg.size, fun k hk => turned_other h (by omega)⟩
end Go.Proofs.YtcomifbfldoeiaaGreatDoor
namespace Go.Proofs.YtcomifbfldoeiaaGreatDoor
open Go.RowKit

set_option maxHeartbeats 4000000 in
set_option maxRecDepth 100000 in
theorem eq270 (xs ys : List Int) (ao bo : Option Addr) (c d B : Nat) (w : World) (hX : Ints B w ao xs) (hY : Ints B w bo ys) (hn : xs.length ≤ 4611686018427387903) (hn2 : ys.length ≤ 4611686018427387903) :
    Calls Tryz.prog 202 #[.slice ao xs.length c, .slice bo ys.length d] w fun e w' => e = .returned (.bool (decide (xs = ys))) ∧ Below w.heap.size w w' := by
  by_cases hl : xs.length = ys.length
  · by_cases hp : 0 < xs.length
    · obtain ⟨b1, o1, rfl, h1, k1⟩ := hX.form hp
      obtain ⟨b2, o2, rfl, h2, k2⟩ := hY.form (by omega)
      refine (Tryz.slices_Equal_int b1 o1 xs.length c b2 o2 ys.length d xs ys w (Nat.le_refl _) (Nat.le_refl _) (by omega) (by omega) (fun j hj => k1 j _ (by rw [List.getElem?_eq_getElem hj, List.getD_eq_getElem?_getD, List.getElem?_eq_getElem hj]; rfl)) (fun j hj => k2 j _ (by rw [List.getElem?_eq_getElem hj, List.getD_eq_getElem?_getD, List.getElem?_eq_getElem hj]; rfl))).mono ?_
      rintro e w' ⟨rfl, q, rfl⟩; refine ⟨ret_bool ?_, by obtain ⟨w2, g1, g2, -⟩ := redrew w q; rw [← g1]; exact g2 _⟩
      rw [List.take_length, List.take_length]
      by_cases h : xs = ys
      · simp [h]
      · simp [h]
    · have e1 : xs = [] := List.eq_nil_of_length_eq_zero (by omega)
      have e2 : ys = [] := List.eq_nil_of_length_eq_zero (by omega)
      subst e1 e2
      refine (Tryz.slices_Equal_int_empty ao bo c 0 d w (by omega)).mono ?_
      rintro e w' ⟨rfl, rfl⟩; exact ⟨rfl, Below.refl _ _⟩
  · have HD := Lib.hid (show decide (xs = ys) = false from decide_eq_false (fun e => hl (by rw [e])))
    obtain ⟨n, hn3⟩ : ∃ n, n = xs.length := ⟨_, rfl⟩
    obtain ⟨m, hm3⟩ : ∃ m, m = ys.length := ⟨_, rfl⟩
    rw [← hn3, ← hm3] at hl ⊢
    have hl1 : ¬ (n : Int) = (m : Int) := by omega
    have hl2 : ((n : Int) != (m : Int)) = true := by simpa using hl1
    have hl3 : ((n : Int) == (m : Int)) = false := by simpa using hl1
    clear hX hY hn hn2 hn3 hm3; go_enter Tryz.func202, Tryz.ntmps202
    go_wp2_with fail
    go_ret; exact ⟨ret_bool HD.out.symm, Below.refl _ _⟩
def serQ (a b : Ev) : Bool := decide (a.days.first = b.days.first ∧ a.days.last = b.days.last ∧ a.days.every = b.days.every ∧ a.days.wd = b.days.wd) && (decide (a.days.ex = b.days.ex) && decide (a.days.xt = b.days.xt))
/-- Are two events equal but for their sequence? -/
def sameQ (a b : Ev) : Bool := serQ a b && (decide (a.uid = b.uid) && (decide (a.canc = b.canc) && (decide (a.start = b.start) && (decide (a.mins = b.mins) && (decide (a.summ = b.summ) && decide (a.loc = b.loc))))))
theorem sameQ_iff (a b : Ev) : sameQ a b = true ↔ { a with seq := b.seq } = b := by
  obtain ⟨u, s, c, ⟨f, l, v, d, x, y⟩, st, m, su, lo⟩ := a
  obtain ⟨u', s', c', ⟨f', l', v', d', x', y'⟩, st', m', su', lo'⟩ := b
  unfold sameQ serQ
  simp only [Bool.and_eq_true, decide_eq_true_eq, Ev.mk.injEq, Tt.Ser.mk.injEq]
  constructor
  · rintro ⟨⟨⟨h1, h2, h3, h4⟩, h5, h6⟩, h7, h8, h9, h10, h11, h12⟩
    exact ⟨h7, trivial, h8, ⟨h1, h2, h3, h4, h5, h6⟩, h9, h10, h11, h12⟩
  · rintro ⟨h7, _, h8, ⟨h1, h2, h3, h4, h5, h6⟩, h9, h10, h11, h12⟩
    exact ⟨⟨⟨h1, h2, h3, h4⟩, h5, h6⟩, h7, h8, h9, h10, h11, h12⟩
set_option maxHeartbeats 8000000 in
set_option maxRecDepth 100000 in
theorem same199 (ea eb : Ev) (p p2 q q2 : Option Addr) (c c2 d d2 B : Nat) (w : World) (hB : B ≤ w.heap.size) (hI1 : Ints B w p ea.days.ex) (hI2 : Ints B w p2 ea.days.xt) (hI3 : Ints B w q eb.days.ex) (hI4 : Ints B w q2 eb.days.xt) (hn1 : ea.days.ex.length ≤ 4611686018427387903) (hn2 : ea.days.xt.length ≤ 4611686018427387903) (hn3 : eb.days.ex.length ≤ 4611686018427387903) (hn4 : eb.days.xt.length ≤ 4611686018427387903) : Calls Tryz.prog 143 #[.agg #[.string ea.uid, .int .i64 ea.seq, .bool ea.canc, .int .i64 ea.days.first, .int .i64 ea.days.last, .int .i64 ea.days.every, .int .i64 ea.days.wd, .slice p ea.days.ex.length c, .slice p2 ea.days.xt.length c2, .int .i64 ea.start, .int .i64 ea.mins, .string ea.summ, .string ea.loc], .agg #[.string eb.uid, .int .i64 eb.seq, .bool eb.canc, .int .i64 eb.days.first, .int .i64 eb.days.last, .int .i64 eb.days.every, .int .i64 eb.days.wd, .slice q eb.days.ex.length d, .slice q2 eb.days.xt.length d2, .int .i64 eb.start, .int .i64 eb.mins, .string eb.summ, .string eb.loc]] w fun e w' => e = .returned (.bool (sameQ ea eb)) ∧ Below w.heap.size w w' := by
  obtain ⟨X, hX⟩ : ∃ x, x = w.heap.size := ⟨_, rfl⟩
  obtain ⟨Y, hY⟩ : ∃ x, x = w.heap.size + 1 := ⟨_, rfl⟩
  obtain ⟨w0, hw0⟩ : ∃ x, x = (w.alloc (.cells #[.string ea.uid, .int .i64 ea.seq, .bool ea.canc, .int .i64 ea.days.first, .int .i64 ea.days.last, .int .i64 ea.days.every, .int .i64 ea.days.wd, .slice p ea.days.ex.length c, .slice p2 ea.days.xt.length c2, .int .i64 ea.start, .int .i64 ea.mins, .string ea.summ, .string ea.loc] 104)).alloc (.cells #[.string eb.uid, .int .i64 eb.seq, .bool eb.canc, .int .i64 eb.days.first, .int .i64 eb.days.last, .int .i64 eb.days.every, .int .i64 eb.days.wd, .slice q eb.days.ex.length d, .slice q2 eb.days.xt.length d2, .int .i64 eb.start, .int .i64 eb.mins, .string eb.summ, .string eb.loc] 104) := ⟨_, rfl⟩
  have HX0 := Lib.hid (show Blk X #[.string ea.uid, .int .i64 ea.seq, .bool ea.canc, .int .i64 ea.days.first, .int .i64 ea.days.last, .int .i64 ea.days.every, .int .i64 ea.days.wd, .slice p ea.days.ex.length c, .slice p2 ea.days.xt.length c2, .int .i64 ea.start, .int .i64 ea.mins, .string ea.summ, .string ea.loc] 104 w0 from by rw [hw0, hX]; exact (Blk.new w _ _).alloc _)
  have HY0 := Lib.hid (show Blk Y #[.string eb.uid, .int .i64 eb.seq, .bool eb.canc, .int .i64 eb.days.first, .int .i64 eb.days.last, .int .i64 eb.days.every, .int .i64 eb.days.wd, .slice q eb.days.ex.length d, .slice q2 eb.days.xt.length d2, .int .i64 eb.start, .int .i64 eb.mins, .string eb.summ, .string eb.loc] 104 w0 from by rw [hw0, hY]; exact Blk.new' _ _ _ (by simp))
  have HL0 := Lib.hid (show Below w.heap.size w w0 from by rw [hw0]; exact (below_box w _).trans ((below_box _ _).mono (by simp)))
  have HI1 := Lib.hid (hI1.mono hB)
  have HI2 := Lib.hid (hI2.mono hB)
  have HI3 := Lib.hid (hI3.mono hB)
  have HI4 := Lib.hid (hI4.mono hB)
  clear hI1 hI2 hI3 hI4; go_enter Tryz.func143, Tryz.ntmps143
  go_upto_region 1 with (fail)
  rw [← hw0, ← hY, ← hX]; clear hw0 hX hY; go_cut [5, 6] from 5 to 10 (fun s5 s6 wx => ∃ P Q : Nat, s5 = .pointer (some ⟨P, 0, none⟩) ∧ s6 = .pointer (some ⟨Q, 0, none⟩) ∧ Hid (Blk P #[.int .i64 ea.days.first, .int .i64 ea.days.last, .int .i64 ea.days.every, .int .i64 ea.days.wd, .slice p ea.days.ex.length c, .slice p2 ea.days.xt.length c2] 102 wx) ∧ Hid (Blk Q #[.int .i64 eb.days.first, .int .i64 eb.days.last, .int .i64 eb.days.every, .int .i64 eb.days.wd, .slice q eb.days.ex.length d, .slice q2 eb.days.xt.length d2] 102 wx) ∧ Hid (Below w0.heap.size w0 wx))
  case first =>
    have x3 : w0.cell? ⟨X, 3, none⟩ = some (.int .i64 ea.days.first) := HX0.out.cell 3
    have x4 : w0.cell? ⟨X, 4, none⟩ = some (.int .i64 ea.days.last) := HX0.out.cell 4
    have x5 : w0.cell? ⟨X, 5, none⟩ = some (.int .i64 ea.days.every) := HX0.out.cell 5
    have x6 : w0.cell? ⟨X, 6, none⟩ = some (.int .i64 ea.days.wd) := HX0.out.cell 6
    have x7 : w0.cell? ⟨X, 7, none⟩ = some (.slice p ea.days.ex.length c) := HX0.out.cell 7
    have x8 : w0.cell? ⟨X, 8, none⟩ = some (.slice p2 ea.days.xt.length c2) := HX0.out.cell 8
    have y3 : w0.cell? ⟨Y, 3, none⟩ = some (.int .i64 eb.days.first) := HY0.out.cell 3
    have y4 : w0.cell? ⟨Y, 4, none⟩ = some (.int .i64 eb.days.last) := HY0.out.cell 4
    have y5 : w0.cell? ⟨Y, 5, none⟩ = some (.int .i64 eb.days.every) := HY0.out.cell 5
    have y6 : w0.cell? ⟨Y, 6, none⟩ = some (.int .i64 eb.days.wd) := HY0.out.cell 6
    have y7 : w0.cell? ⟨Y, 7, none⟩ = some (.slice q eb.days.ex.length d) := HY0.out.cell 7
    have y8 : w0.cell? ⟨Y, 8, none⟩ = some (.slice q2 eb.days.xt.length d2) := HY0.out.cell 8
    have hxl := HX0.out.lt; have hyl := HY0.out.lt; go_region
    · go_wp2_with fail
      go_meet
      case rel => exact ⟨_, _, rfl, rfl, Lib.hid ((Blk.new w0 _ _).alloc _).draw, Lib.hid (Blk.new' _ _ _ (by simp)).draw, Lib.hid (below_drw ((below_box w0 _).trans ((below_box _ _).mono (by simp))))⟩
    · go_wp2_with fail
      go_meet
      case rel => exact ⟨_, _, rfl, rfl, Lib.hid (Blk.new' _ _ _ (by simp)).draw, Lib.hid ((Blk.new w0 _ _).alloc _).draw, Lib.hid (below_drw ((below_box w0 _).trans ((below_box _ _).mono (by simp))))⟩
  case rest =>
    obtain ⟨P, Q, rfl, rfl, HP, HQ, HW⟩ := hcut; have HLc := Lib.hid (HL0.out.trans (HW.out.mono HL0.out.size))
    by_cases h : ea.days.first = eb.days.first ∧ ea.days.last = eb.days.last ∧ ea.days.every = eb.days.every ∧ ea.days.wd = eb.days.wd
    rotate_left
    · have HR := Lib.hid (show sameQ ea eb = false from by unfold sameQ serQ; rw [decide_eq_false h]; rfl)
      have x0 : wc.cell? ⟨P, 0, none⟩ = some (.int .i64 ea.days.first) := HP.out.cell 0
      have x1 : wc.cell? ⟨P, 1, none⟩ = some (.int .i64 ea.days.last) := HP.out.cell 1
      have x2 : wc.cell? ⟨P, 2, none⟩ = some (.int .i64 ea.days.every) := HP.out.cell 2
      have x3 : wc.cell? ⟨P, 3, none⟩ = some (.int .i64 ea.days.wd) := HP.out.cell 3
      have x4 : wc.cell? ⟨P, 4, none⟩ = some (.slice p ea.days.ex.length c) := HP.out.cell 4
      have x5 : wc.cell? ⟨P, 5, none⟩ = some (.slice p2 ea.days.xt.length c2) := HP.out.cell 5
      have y0 : wc.cell? ⟨Q, 0, none⟩ = some (.int .i64 eb.days.first) := HQ.out.cell 0
      have y1 : wc.cell? ⟨Q, 1, none⟩ = some (.int .i64 eb.days.last) := HQ.out.cell 1
      have y2 : wc.cell? ⟨Q, 2, none⟩ = some (.int .i64 eb.days.every) := HQ.out.cell 2
      have y3 : wc.cell? ⟨Q, 3, none⟩ = some (.int .i64 eb.days.wd) := HQ.out.cell 3
      have y4 : wc.cell? ⟨Q, 4, none⟩ = some (.slice q eb.days.ex.length d) := HQ.out.cell 4
      have y5 : wc.cell? ⟨Q, 5, none⟩ = some (.slice q2 eb.days.xt.length d2) := HQ.out.cell 5
      go_wp2_with fail
      all_goals first | (exfalso; omega) | (go_ret; exact ⟨ret_bool HR.out.symm, HLc.out⟩)
    obtain ⟨e1, e2, e3, e4⟩ := h; have HS := Lib.hid (show sameQ ea eb = ((decide (ea.days.ex = eb.days.ex) && decide (ea.days.xt = eb.days.xt)) && (decide (ea.uid = eb.uid) && (decide (ea.canc = eb.canc) && (decide (ea.start = eb.start) && (decide (ea.mins = eb.mins) && (decide (ea.summ = eb.summ) && decide (ea.loc = eb.loc))))))) from by unfold sameQ serQ; rw [decide_eq_true ⟨e1, e2, e3, e4⟩, Bool.true_and])
    have HP2 := Lib.hid (show Blk P #[.int .i64 eb.days.first, .int .i64 eb.days.last, .int .i64 eb.days.every, .int .i64 eb.days.wd, .slice p ea.days.ex.length c, .slice p2 ea.days.xt.length c2] 102 wc from by rw [← e1, ← e2, ← e3, ← e4]; exact HP.out)
    clear HP e1 e2 e3 e4; have x0 : wc.cell? ⟨P, 0, none⟩ = some (.int .i64 eb.days.first) := HP2.out.cell 0
    have x1 : wc.cell? ⟨P, 1, none⟩ = some (.int .i64 eb.days.last) := HP2.out.cell 1
    have x2 : wc.cell? ⟨P, 2, none⟩ = some (.int .i64 eb.days.every) := HP2.out.cell 2
    have x3 : wc.cell? ⟨P, 3, none⟩ = some (.int .i64 eb.days.wd) := HP2.out.cell 3
    have x4 : wc.cell? ⟨P, 4, none⟩ = some (.slice p ea.days.ex.length c) := HP2.out.cell 4
    have x5 : wc.cell? ⟨P, 5, none⟩ = some (.slice p2 ea.days.xt.length c2) := HP2.out.cell 5
    have y0 : wc.cell? ⟨Q, 0, none⟩ = some (.int .i64 eb.days.first) := HQ.out.cell 0
    have y1 : wc.cell? ⟨Q, 1, none⟩ = some (.int .i64 eb.days.last) := HQ.out.cell 1
    have y2 : wc.cell? ⟨Q, 2, none⟩ = some (.int .i64 eb.days.every) := HQ.out.cell 2
    have y3 : wc.cell? ⟨Q, 3, none⟩ = some (.int .i64 eb.days.wd) := HQ.out.cell 3
    have y4 : wc.cell? ⟨Q, 4, none⟩ = some (.slice q eb.days.ex.length d) := HQ.out.cell 4
    have y5 : wc.cell? ⟨Q, 5, none⟩ = some (.slice q2 eb.days.xt.length d2) := HQ.out.cell 5
    have hbx : Below w.heap.size w wc := HLc.out
    have H1 := Lib.hid (eq270 ea.days.ex eb.days.ex p q c d wc.heap.size wc ((HI1.out.below hbx).mono hbx.size) ((HI3.out.below hbx).mono hbx.size) hn1 hn3)
    clear hbx; obtain ⟨b1, hb1⟩ : ∃ b, b = decide (ea.days.ex = eb.days.ex) := ⟨_, rfl⟩
    rw [← hb1] at H1 HS
    clear hb1; go_wp2_with fail
    refine H1.out.mono ?_
    clear H1; rintro e w1 ⟨rfl, hb⟩; have HK1 := Lib.hid hb; have HL1 := Lib.hid (HLc.out.trans (hb.mono HLc.out.size))
    clear hb x0 y0 x1 y1 x2 y2 x3 y3 x4 y4 x5 y5; cases b1
    · have HR := Lib.hid (show sameQ ea eb = false from HS.out)
      go_wp2_with fail
      go_ret; exact ⟨ret_bool HR.out.symm, HL1.out⟩
    have HP3 := Lib.hid (HP2.out.below HK1.out HP2.out.lt)
    have HQ3 := Lib.hid (HQ.out.below HK1.out HQ.out.lt)
    have x0 : w1.cell? ⟨P, 0, none⟩ = some (.int .i64 eb.days.first) := HP3.out.cell 0
    have x1 : w1.cell? ⟨P, 1, none⟩ = some (.int .i64 eb.days.last) := HP3.out.cell 1
    have x2 : w1.cell? ⟨P, 2, none⟩ = some (.int .i64 eb.days.every) := HP3.out.cell 2
    have x3 : w1.cell? ⟨P, 3, none⟩ = some (.int .i64 eb.days.wd) := HP3.out.cell 3
    have x4 : w1.cell? ⟨P, 4, none⟩ = some (.slice p ea.days.ex.length c) := HP3.out.cell 4
    have x5 : w1.cell? ⟨P, 5, none⟩ = some (.slice p2 ea.days.xt.length c2) := HP3.out.cell 5
    have y0 : w1.cell? ⟨Q, 0, none⟩ = some (.int .i64 eb.days.first) := HQ3.out.cell 0
    have y1 : w1.cell? ⟨Q, 1, none⟩ = some (.int .i64 eb.days.last) := HQ3.out.cell 1
    have y2 : w1.cell? ⟨Q, 2, none⟩ = some (.int .i64 eb.days.every) := HQ3.out.cell 2
    have y3 : w1.cell? ⟨Q, 3, none⟩ = some (.int .i64 eb.days.wd) := HQ3.out.cell 3
    have y4 : w1.cell? ⟨Q, 4, none⟩ = some (.slice q eb.days.ex.length d) := HQ3.out.cell 4
    have y5 : w1.cell? ⟨Q, 5, none⟩ = some (.slice q2 eb.days.xt.length d2) := HQ3.out.cell 5
    have hbx : Below w.heap.size w w1 := HL1.out
    have H1 := Lib.hid (eq270 ea.days.xt eb.days.xt p2 q2 c2 d2 w1.heap.size w1 ((HI2.out.below hbx).mono hbx.size) ((HI4.out.below hbx).mono hbx.size) hn2 hn4)
    clear hbx; obtain ⟨b2, hb2⟩ : ∃ b, b = decide (ea.days.xt = eb.days.xt) := ⟨_, rfl⟩
    rw [← hb2] at H1 HS
    clear hb2; go_wp2_with fail
    refine H1.out.mono ?_
    clear H1; rintro e w2 ⟨rfl, hb⟩; have HK2 := Lib.hid (HW.out.trans ((HK1.out.trans (hb.mono HK1.out.size)).mono HW.out.size))
    have HL2 := Lib.hid (HL1.out.trans (hb.mono HL1.out.size))
    clear hb x0 y0 x1 y1 x2 y2 x3 y3 x4 y4 x5 y5; cases b2
    · have HR := Lib.hid (show sameQ ea eb = false from HS.out)
      go_wp2_with fail
      go_ret; exact ⟨ret_bool HR.out.symm, HL2.out⟩
    have HX3 := Lib.hid (HX0.out.below HK2.out HX0.out.lt)
    have HY3 := Lib.hid (HY0.out.below HK2.out HY0.out.lt)
    have x0 : w2.cell? ⟨X, 0, none⟩ = some (.string ea.uid) := HX3.out.cell 0
    have x1 : w2.cell? ⟨X, 1, none⟩ = some (.int .i64 ea.seq) := HX3.out.cell 1
    have x2 : w2.cell? ⟨X, 2, none⟩ = some (.bool ea.canc) := HX3.out.cell 2
    have x3 : w2.cell? ⟨X, 3, none⟩ = some (.int .i64 ea.days.first) := HX3.out.cell 3
    have x4 : w2.cell? ⟨X, 4, none⟩ = some (.int .i64 ea.days.last) := HX3.out.cell 4
    have x5 : w2.cell? ⟨X, 5, none⟩ = some (.int .i64 ea.days.every) := HX3.out.cell 5
    have x6 : w2.cell? ⟨X, 6, none⟩ = some (.int .i64 ea.days.wd) := HX3.out.cell 6
    have x7 : w2.cell? ⟨X, 7, none⟩ = some (.slice p ea.days.ex.length c) := HX3.out.cell 7
    have x8 : w2.cell? ⟨X, 8, none⟩ = some (.slice p2 ea.days.xt.length c2) := HX3.out.cell 8
    have x9 : w2.cell? ⟨X, 9, none⟩ = some (.int .i64 ea.start) := HX3.out.cell 9
    have x10 : w2.cell? ⟨X, 10, none⟩ = some (.int .i64 ea.mins) := HX3.out.cell 10
    have x11 : w2.cell? ⟨X, 11, none⟩ = some (.string ea.summ) := HX3.out.cell 11
    have x12 : w2.cell? ⟨X, 12, none⟩ = some (.string ea.loc) := HX3.out.cell 12
    have y0 : w2.cell? ⟨Y, 0, none⟩ = some (.string eb.uid) := HY3.out.cell 0
    have y1 : w2.cell? ⟨Y, 1, none⟩ = some (.int .i64 eb.seq) := HY3.out.cell 1
    have y2 : w2.cell? ⟨Y, 2, none⟩ = some (.bool eb.canc) := HY3.out.cell 2
    have y3 : w2.cell? ⟨Y, 3, none⟩ = some (.int .i64 eb.days.first) := HY3.out.cell 3
    have y4 : w2.cell? ⟨Y, 4, none⟩ = some (.int .i64 eb.days.last) := HY3.out.cell 4
    have y5 : w2.cell? ⟨Y, 5, none⟩ = some (.int .i64 eb.days.every) := HY3.out.cell 5
    have y6 : w2.cell? ⟨Y, 6, none⟩ = some (.int .i64 eb.days.wd) := HY3.out.cell 6
    have y7 : w2.cell? ⟨Y, 7, none⟩ = some (.slice q eb.days.ex.length d) := HY3.out.cell 7
    have y8 : w2.cell? ⟨Y, 8, none⟩ = some (.slice q2 eb.days.xt.length d2) := HY3.out.cell 8
    have y9 : w2.cell? ⟨Y, 9, none⟩ = some (.int .i64 eb.start) := HY3.out.cell 9
    have y10 : w2.cell? ⟨Y, 10, none⟩ = some (.int .i64 eb.mins) := HY3.out.cell 10
    have y11 : w2.cell? ⟨Y, 11, none⟩ = some (.string eb.summ) := HY3.out.cell 11
    have y12 : w2.cell? ⟨Y, 12, none⟩ = some (.string eb.loc) := HY3.out.cell 12
    go_wp2_with fail
    all_goals go_ret
    all_goals refine ⟨ret_bool ?_, HL2.out⟩
    all_goals rw [HS.out, ← dec_bytes, ← dec_bytes, ← dec_bytes]
    all_goals simp [*]
end Go.Proofs.YtcomifbfldoeiaaGreatDoor
namespace Go.Proofs.YtcomifbfldoeiaaGreatDoor
open Go.RowKit

abbrev Tri := Ev × Value × Value
theorem putM_map {ts : List Tri} {t : Tri} {es : List Ev} (hp : (ts.map (·.1)).Perm es) (ha : AscU es) : ((putM ts t).map (·.1)).Perm (putE t.1 es) := by
  refine List.Perm.trans ?_ (putE_perm ha).symm
  unfold putM
  rw [List.map_cons]
  refine List.Perm.cons _ ?_
  have e : (ts.filter (fun u => !decide (u.1.uid = t.1.uid))).map (·.1) = (ts.map (·.1)).filter (fun u => !decide (u.uid = t.1.uid)) := by
    rw [List.filter_map]; rfl
  rw [e]
  exact hp.filter _
theorem advS_no {ts : List Tri} {es : List Ev} {e : Ev} (hp : (ts.map (·.1)).Perm es) (k : Int) (h : ∀ x ∈ ts, x.1.uid ≠ e.uid) : advS k es e = putE e es := by
  unfold advS
  rw [getE_no]
  intro o ho; obtain ⟨x, hx, rfl⟩ := List.mem_map.1 (hp.mem_iff.2 ho)
  exact h x hx
theorem advS_yes {ts : List Tri} {es : List Ev} {e : Ev} (hp : (ts.map (·.1)).Perm es) (ha : AscU es) (k : Int) (hk : e.seq = k) {t : Tri} (ht : t ∈ ts) (hu : t.1.uid = e.uid) : advS k es e = if sameQ t.1 e = true then es else putE e es := by
  have hm : t.1 ∈ es := hp.mem_iff.1 (List.mem_map.2 ⟨t, ht, rfl⟩)
  unfold advS
  rw [← hu, getE_yes ha hm]; by_cases h : sameQ t.1 e = true
  · rw [if_pos h]
    have := (sameQ_iff _ _).1 h
    rw [hk] at this
    exact if_pos this
  · rw [if_neg h]
    refine if_neg (fun h2 => h ((sameQ_iff _ _).2 ?_))
    rw [hk]; exact h2
theorem Tri.one {ts : List Tri} (h : ts.Pairwise (fun a c => a.1.uid ≠ c.1.uid)) {a b : Tri} (ha : a ∈ ts) (hb : b ∈ ts) (he : a.1.uid = b.1.uid) : a = b := by
  induction ts with
  | nil => cases ha
  | cons x r ih =>
    obtain ⟨h1, h2⟩ := List.pairwise_cons.1 h
    rcases List.mem_cons.1 ha with e1 | ha1
    · rcases List.mem_cons.1 hb with e2 | hb1
      · rw [e1, e2]
      · exact absurd (by rw [← e1]; exact he) (h1 b hb1)
    · rcases List.mem_cons.1 hb with e2 | hb1
      · exact absurd (by rw [← e2]; exact he.symm) (h1 a ha1)
      · exact ih h2 ha1 hb1
/-- An event cancelled in version k. -/
def canT (k : Int) (t : Tri) : Tri := ({ t.1 with canc := true, seq := k }, t.2)
/-- Those of some identifiers are cancelled. -/
def canF (k : Int) (us : List ByteArray) (t : Tri) : Tri := if memB t.1.uid us = true then canT k t else t
theorem canF_uid (k : Int) (us : List ByteArray) (t : Tri) : (canF k us t).1.uid = t.1.uid := by unfold canF; split <;> rfl
theorem memB_iff (x : ByteArray) (xs : List ByteArray) : memB x xs = true ↔ x ∈ xs := by
  unfold memB
  rw [List.any_eq_true]
  constructor
  · rintro ⟨u, hu, h⟩; have := of_decide_eq_true h; rw [← this]; exact hu
  · intro h; exact ⟨x, h, decide_eq_true rfl⟩
theorem split_one : ∀ {ts : List Tri} {t : Tri}, ts.Pairwise (fun a c => a.1.uid ≠ c.1.uid) → t ∈ ts → ts.Perm (t :: ts.filter (fun u => !decide (u.1.uid = t.1.uid)))
  | [], _, _, h => by cases h
  | x :: r, t, hp, h => by
    obtain ⟨h1, h2⟩ := List.pairwise_cons.1 hp
    rcases List.mem_cons.1 h with e | h3
    · subst e; rw [List.filter_cons, if_neg (by simp), List.filter_eq_self.2 (fun u hu => by simpa using (h1 u hu).symm)]
    · rw [List.filter_cons, if_pos (by simpa using h1 t h3)]
      exact ((split_one h2 h3).cons x).trans (List.Perm.swap _ _ _)
/-- One more cancelled. -/
theorem can_step {ts : List Tri} {t : Tri} {us : List ByteArray} (k : Int) (hp : ts.Pairwise (fun a c => a.1.uid ≠ c.1.uid)) (ht : t ∈ ts) : (putM (ts.map (canF k us)) (canT k t)).Perm (ts.map (canF k (us ++ [t.1.uid]))) := by
  refine List.Perm.trans ?_ ((split_one hp ht).map (canF k (us ++ [t.1.uid]))).symm
  unfold putM
  rw [List.map_cons]
  have e1 : canF k (us ++ [t.1.uid]) t = canT k t := by unfold canF; rw [if_pos ((memB_iff _ _).2 (by simp))]
  rw [e1]
  refine List.Perm.cons _ ?_
  rw [List.filter_map]
  have e2 : ∀ u ∈ ts.filter (fun u => !decide (u.1.uid = t.1.uid)), canF k us u = canF k (us ++ [t.1.uid]) u := by
    intro u hu; have hne : ¬ u.1.uid = t.1.uid := by simpa using (List.mem_filter.1 hu).2
    unfold canF
    have : memB u.1.uid (us ++ [t.1.uid]) = memB u.1.uid us := by
      rw [Bool.eq_iff_iff, memB_iff, memB_iff]; simp [hne]
    rw [this]
  have e3 : ts.filter ((fun u => !decide (u.1.uid = (canT k t).1.uid)) ∘ canF k us) = ts.filter (fun u => !decide (u.1.uid = t.1.uid)) := by
    refine List.filter_congr fun u _ => ?_
    show (!decide ((canF k us u).1.uid = t.1.uid)) = _
    rw [canF_uid]
  rw [e3, List.map_congr_left e2]
theorem canF_nil (k : Int) (ts : List Tri) : ts.map (canF k []) = ts := by
  have : ∀ t ∈ ts, canF k [] t = id t := fun t _ => by unfold canF; rw [if_neg (by simp [memB])]; rfl
  rw [List.map_congr_left this, List.map_id]
/-- What is gone. -/
def goneT (here : List ByteArray) (t : Tri) : Bool := !memB t.1.uid here && !t.1.canc
theorem can_all {ts : List Tri} {es : List Ev} {us here : List ByteArray} (k : Int) (hp : ts.Pairwise (fun a c => a.1.uid ≠ c.1.uid)) (hm : (ts.map (·.1)).Perm es) (hu : us.Perm ((ts.filter (goneT here)).map (fun t => t.1.uid))) : ((ts.map (canF k us)).map (·.1)).Perm (advC k here es) := by
  have e : (ts.map (canF k us)).map (·.1) = (ts.map (·.1)).map (goneE k here) := by
    rw [List.map_map, List.map_map]
    refine List.map_congr_left fun t ht => ?_
    show (canF k us t).1 = goneE k here t.1
    have hk : memB t.1.uid us = true ↔ goneT here t = true := by
      rw [memB_iff, hu.mem_iff, List.mem_map]
      constructor
      · rintro ⟨x, hx, he⟩; obtain ⟨h1, h2⟩ := List.mem_filter.1 hx
        rw [← Tri.one hp h1 ht he]; exact h2
      · intro h; exact ⟨t, List.mem_filter.2 ⟨ht, h⟩, rfl⟩
    unfold canF goneE
    by_cases hg : goneT here t = true
    · rw [if_pos (hk.2 hg), if_neg]
      · rfl
      · unfold goneT at hg
        rw [Bool.and_eq_true] at hg
        have h1 : memB t.1.uid here = false := by simpa using hg.1
        have h2 : t.1.canc = false := by simpa using hg.2
        unfold memB at h1
        rw [h2, h1]; simp
    · rw [if_neg (fun h => hg (hk.1 h)), if_pos]
      unfold goneT at hg
      cases h1 : memB t.1.uid here with
      | true => unfold memB at h1; rw [h1]; simp
      | false =>
        cases h2 : t.1.canc with
        | true => rfl
        | false => rw [h1, h2] at hg; exact absurd rfl hg
  rw [e]
  exact hm.map _
theorem RefT.can {lo : Nat} {w : World} {t : Tri} (h : RefT lo w t) (k : Int) : RefT lo w (canT k t) := ⟨⟨h.1.ex, h.1.xt, h.1.uid, h.1.summ, h.1.loc⟩, h.2⟩
end Go.Proofs.YtcomifbfldoeiaaGreatDoor
