/- sort.Sort over the entries of an agenda, any number of them: a permutation in ascending order. Conditions: at most a thousand million entries in a row of one's own. -/
import Derived.Test.YtageielcdebjlaaGreatDoorRowT
import Derived.Test.YtageielcdebjlaaGreatDoorSortJ
import Derived.Test.YtageielcdebjlaaGreatDoorPk14
namespace Go.Proofs
open Go.Shelf
def Tryz.sortI_ren : Go.Shelf.Ren := ⟨fun | 11 => 87 | 17 => 158 | 18 => 159 | 31 => 229 | 32 => 230 | 33 => 231 | 34 => 232 | 35 => 233 | 36 => 234 | 37 => 235 | 38 => 236 | 39 => 237 | 40 => 238 | 43 => 294 | 44 => 295 | 45 => 296 | 46 => 297 | 47 => 298 | 50 => 336 | n => n, fun | 45 => 200 | 3 => 3 | 4 => 4 | 47 => 185 | 0 => 0 | 56 => 243 | 58 => 245 | 61 => 248 | 60 => 247 | 65 => 129 | 5 => 5 | 9 => 9 | 67 => 288 | 71 => 292 | 73 => 316 | 74 => 317 | 43 => 156 | 26 => 235 | 38 => 287 | n => n, fun | n => n⟩
theorem Tryz.sortI : Go.Proofs.LaysGt.n11 Tryz.prog Tryz.sortI_ren := {
  mixed := by kernel_rfl
  f11 := Tryz.func87.trans (congrArg some (by kernel_rfl))
  f17 := Tryz.func158.trans (congrArg some (by kernel_rfl))
  f18 := Tryz.func159.trans (congrArg some (by kernel_rfl))
  f31 := Tryz.func229.trans (congrArg some (by kernel_rfl))
  f32 := Tryz.func230.trans (congrArg some (by kernel_rfl))
  f33 := Tryz.func231.trans (congrArg some (by kernel_rfl))
  f34 := Tryz.func232.trans (congrArg some (by kernel_rfl))
  f35 := Tryz.func233.trans (congrArg some (by kernel_rfl))
  f36 := Tryz.func234.trans (congrArg some (by kernel_rfl))
  f37 := Tryz.func235.trans (congrArg some (by kernel_rfl))
  f38 := Tryz.func236.trans (congrArg some (by kernel_rfl))
  f39 := Tryz.func237.trans (congrArg some (by kernel_rfl))
  f40 := Tryz.func238.trans (congrArg some (by kernel_rfl))
  f43 := Tryz.func294.trans (congrArg some (by kernel_rfl))
  f44 := Tryz.func295.trans (congrArg some (by kernel_rfl))
  f45 := Tryz.func296.trans (congrArg some (by kernel_rfl))
  f46 := Tryz.func297.trans (congrArg some (by kernel_rfl))
  f47 := Tryz.func298.trans (congrArg some (by kernel_rfl))
  f50 := Tryz.func336.trans (congrArg some (by kernel_rfl))
  t0 := Tryz.underlying0
  a0 := Tryz.isAgg0
  z0 := Tryz.sizeOf0
  v0 := Tryz.zeroValue0
  i0 := by kernel_rfl
  t3 := Tryz.underlying3
  a3 := Tryz.isAgg3
  z3 := Tryz.sizeOf3
  v3 := Tryz.zeroValue3
  i3 := by kernel_rfl
  t4 := Tryz.underlying4
  a4 := Tryz.isAgg4
  z4 := Tryz.sizeOf4
  v4 := Tryz.zeroValue4
  i4 := by kernel_rfl
  t5 := Tryz.underlying5
  a5 := Tryz.isAgg5
  z5 := Tryz.sizeOf5
  v5 := Tryz.zeroValue5
  i5 := by kernel_rfl
  t9 := Tryz.underlying9
  a9 := Tryz.isAgg9
  z9 := Tryz.sizeOf9
  v9 := Tryz.zeroValue9
  i9 := by kernel_rfl
  t26 := Tryz.underlying235
  a26 := Tryz.isAgg235
  z26 := Tryz.sizeOf235
  v26 := Tryz.zeroValue235
  i26 := by kernel_rfl
  t38 := Tryz.underlying287
  a38 := Tryz.isAgg287
  z38 := Tryz.sizeOf287
  v38 := Tryz.zeroValue287
  i38 := by kernel_rfl
  t43 := Tryz.underlying156
  a43 := Tryz.isAgg156
  z43 := Tryz.sizeOf156
  v43 := Tryz.zeroValue156
  i43 := by kernel_rfl
  t45 := Tryz.underlying200
  a45 := Tryz.isAgg200
  z45 := Tryz.sizeOf200
  v45 := Tryz.zeroValue200
  i45 := by kernel_rfl
  t47 := Tryz.underlying185
  a47 := Tryz.isAgg185
  z47 := Tryz.sizeOf185
  v47 := Tryz.zeroValue185
  i47 := by kernel_rfl
  t56 := Tryz.underlying243
  a56 := Tryz.isAgg243
  z56 := Tryz.sizeOf243
  v56 := Tryz.zeroValue243
  i56 := by kernel_rfl
  t58 := Tryz.underlying245
  a58 := Tryz.isAgg245
  z58 := Tryz.sizeOf245
  v58 := Tryz.zeroValue245
  i58 := by kernel_rfl
  t60 := Tryz.underlying247
  a60 := Tryz.isAgg247
  z60 := Tryz.sizeOf247
  v60 := Tryz.zeroValue247
  i60 := by kernel_rfl
  t61 := Tryz.underlying248
  a61 := Tryz.isAgg248
  z61 := Tryz.sizeOf248
  v61 := Tryz.zeroValue248
  i61 := by kernel_rfl
  t65 := Tryz.underlying129
  a65 := Tryz.isAgg129
  z65 := Tryz.sizeOf129
  v65 := Tryz.zeroValue129
  i65 := by kernel_rfl
  t67 := Tryz.underlying288
  a67 := Tryz.isAgg288
  z67 := Tryz.sizeOf288
  v67 := Tryz.zeroValue288
  i67 := by kernel_rfl
  t71 := Tryz.underlying292
  a71 := Tryz.isAgg292
  z71 := Tryz.sizeOf292
  v71 := Tryz.zeroValue292
  i71 := by kernel_rfl
  t73 := Tryz.underlying316
  a73 := Tryz.isAgg316
  z73 := Tryz.sizeOf316
  v73 := Tryz.zeroValue316
  i73 := by kernel_rfl
  t74 := Tryz.underlying317
  a74 := Tryz.isAgg317
  z74 := Tryz.sizeOf317
  v74 := Tryz.zeroValue317
  i74 := by kernel_rfl }
end Go.Proofs
namespace Go.Proofs.YtageielcdebjlaaGreatDoor
open Go.RowKit

abbrev Ent := Tt.Ent
def aCells (l : List Ent) : List Value := l.flatMap fun n => [.int .i64 n.inst, .int .i64 n.mins, .string n.uid]
def RowA (lo : Nat) (w : World) (v : Value) (l : List Ent) : Prop := w.ownsRow lo 57 3 v l.length (aCells l)
theorem aCells_snoc (l : List Ent) (n : Ent) : aCells (l ++ [n]) = aCells l ++ [.int .i64 n.inst, .int .i64 n.mins, .string n.uid] := by unfold aCells; simp
theorem aCells_cons (e : Ent) (l : List Ent) : aCells (e :: l) = .int .i64 e.inst :: .int .i64 e.mins :: .string e.uid :: aCells l := rfl
theorem infoEnt : (Tryz.prog.info? 57).map (fun i => (i.zero, i.size, i.bytes)) = some (some (.agg #[.int .i64 0, .int .i64 0, .string ⟨#[]⟩]), 3, 32) := by kernel_rfl
theorem sorted_nil : Sort.SortedIn Tt.entLt 0 ([] : List Ent).length ([] : List Ent).toArray := fun _ _ _ _ hj => absurd hj (Nat.not_lt_zero _)
theorem aCells_at : ∀ (l : List Ent) (i : Nat) (e : Ent), l[i]? = some e → (aCells l)[i * 3]? = some (.int .i64 e.inst) ∧ (aCells l)[i * 3 + 1]? = some (.int .i64 e.mins) ∧ (aCells l)[i * 3 + 2]? = some (.string e.uid)
  | [], _, _, h => by simp at h
  | x :: l, 0, e, h => by
    have h : x = e := by simpa using h
    subst h; exact ⟨rfl, rfl, rfl⟩
  | x :: l, i + 1, e, h => by
    have ih := aCells_at l i e (by simpa using h)
    rw [show (i + 1) * 3 = i * 3 + 1 + 1 + 1 by omega]
    exact ih
theorem aCells_set : ∀ (l : List Ent) (i : Nat) (e : Ent), i < l.length → aCells (l.set i e) = (aCells l).take (i * 3) ++ [.int .i64 e.inst, .int .i64 e.mins, .string e.uid] ++ (aCells l).drop (i * 3 + 3)
  | [], _, _, h => by simp at h
  | x :: l, 0, e, _ => rfl
  | x :: l, i + 1, e, h => by
    have ih := aCells_set l i e (by simpa using h)
    rw [List.set_cons_succ, aCells_cons, aCells_cons, ih, show (i + 1) * 3 = i * 3 + 3 by omega]
    rfl

theorem len_method (v : Value) (w : World) : (method 461 139 v "Len").run Tryz.prog w = .ok (376, v) w := by kernel_rfl

set_option maxHeartbeats 4000000 in
set_option maxRecDepth 100000 in
theorem len376 (p : Option Addr) (n c : Nat) (w : World) : Calls Tryz.prog 376 #[.slice p n c] w fun e w' => e = .returned (.int .i64 n) ∧ w' = w := by
  go_enter Tryz.func376, Tryz.ntmps376
  go_wp2_with fail
  go_ret; exact ⟨rfl, rfl⟩

set_option maxHeartbeats 4000000 in
set_option maxRecDepth 100000 in
theorem sort87_small (p : Option Addr) (n c : Nat) (w : World) (hn : n ≤ 1) : Calls Tryz.prog 87 #[.iface 139 (.slice p n c)] w fun e w' => e = .returned (.tuple #[]) ∧ w' = w := by
  have hni : (n : Int) ≤ 1 := by omega
  have hm := len_method (.slice p n c) w
  go_enter Tryz.func87, Tryz.ntmps87
  go_wp2_with (simp only [hm])
  refine (len376 p n c w).mono ?_
  rintro e w1 ⟨rfl, hw⟩; rw [hw]
  clear hw w1 hm; go_wp2_with fail
  refine bodyPost_ret (results_none rfl _ _ _) rfl ?_
  exact ⟨rfl, rfl⟩
set_option maxHeartbeats 4000000 in
set_option maxRecDepth 100000 in
theorem less377 (g n c i j : Nat) (a b : Tt.Ent) (w : World) (hi : i < n) (hj : j < n)
    (a0 : w.cell? ⟨g, i * 3, none⟩ = some (.int .i64 a.inst)) (a2 : w.cell? ⟨g, i * 3 + 2, none⟩ = some (.string a.uid))
    (b0 : w.cell? ⟨g, j * 3, none⟩ = some (.int .i64 b.inst)) (b2 : w.cell? ⟨g, j * 3 + 2, none⟩ = some (.string b.uid)) :
    Calls Tryz.prog 377 #[.slice (some ⟨g, 0, none⟩) n c, .int .i64 i, .int .i64 j] w fun e w' => e = .returned (.bool (Tt.entLt a b)) ∧ ∃ q, w' = w.drewN q := by
  have hi0 : (0 : Int) ≤ i := by omega
  have hj0 : (0 : Int) ≤ j := by omega
  have hi1 : (i : Int) < n := by omega
  have hj1 : (j : Int) < n := by omega
  go_enter Tryz.func377, Tryz.ntmps377
  by_cases h : a.inst = b.inst
  · rw [show Tt.entLt a b = Op.bytesLess a.uid.toList b.uid.toList by unfold Tt.entLt; rw [if_pos h]]
    obtain ⟨x, hx⟩ : ∃ x, x = a.inst := ⟨_, rfl⟩
    rw [← h, ← hx] at b0
    rw [← hx] at a0
    clear h hx; go_wp2
    go_quiet (fail)
    go_wp2_with fail
    obtain ⟨w2, hw2⟩ : ∃ w2, w2 = w.drewN nq := ⟨_, rfl⟩
    have a2' : w2.cell? ⟨g, i * 3 + 2, none⟩ = some (.string a.uid) := by rw [hw2, World.cell?_drewN]; exact a2
    have b2' : w2.cell? ⟨g, j * 3 + 2, none⟩ = some (.string b.uid) := by rw [hw2, World.cell?_drewN]; exact b2
    rw [← hw2]; have HW := Lib.hid hw2; clear a0 b0 a2 b2 hw2

    go_quiet (fail)
    all_goals go_wp2_with fail
    all_goals go_ret
    all_goals exact ⟨rfl, _, by rw [HW.out, World.drewN_drewN]⟩
  · rw [show Tt.entLt a b = decide (a.inst < b.inst) by unfold Tt.entLt; rw [if_neg h]]
    go_wp2
    go_quiet (fail)
    go_wp2_with fail
    obtain ⟨w2, hw2⟩ : ∃ w2, w2 = w.drewN nq := ⟨_, rfl⟩
    have a2' : w2.cell? ⟨g, i * 3, none⟩ = some (.int .i64 a.inst) := by rw [hw2, World.cell?_drewN]; exact a0
    have b2' : w2.cell? ⟨g, j * 3, none⟩ = some (.int .i64 b.inst) := by rw [hw2, World.cell?_drewN]; exact b0
    rw [← hw2]; have HW := Lib.hid hw2; clear a0 b0 a2 b2 hw2

    go_quiet (fail)
    all_goals go_wp2_with fail
    all_goals go_ret
    all_goals exact ⟨rfl, _, by rw [HW.out, World.drewN_drewN]⟩

set_option maxHeartbeats 4000000 in
set_option maxRecDepth 100000 in
theorem swap378 (g n c i j : Nat) (a b : Tt.Ent) (w : World) (hi : i < n) (hj : j < n)
    (a0 : w.cell? ⟨g, i * 3, none⟩ = some (.int .i64 a.inst)) (a1 : w.cell? ⟨g, i * 3 + 1, none⟩ = some (.int .i64 a.mins)) (a2 : w.cell? ⟨g, i * 3 + 2, none⟩ = some (.string a.uid))
    (fi : ∀ q, w.frozen? ⟨g, q, none⟩ = false) (b0 : w.cell? ⟨g, j * 3, none⟩ = some (.int .i64 b.inst)) (b1 : w.cell? ⟨g, j * 3 + 1, none⟩ = some (.int .i64 b.mins)) (b2 : w.cell? ⟨g, j * 3 + 2, none⟩ = some (.string b.uid)) :
    Calls Tryz.prog 378 #[.slice (some ⟨g, 0, none⟩) n c, .int .i64 i, .int .i64 j] w fun e w' => e = .returned (.tuple #[]) ∧ ∃ q, w' = ((((((w.setCell ⟨g, i * 3, none⟩ (.int .i64 b.inst)).setCell ⟨g, i * 3 + 1, none⟩ (.int .i64 b.mins)).setCell ⟨g, i * 3 + 2, none⟩ (.string b.uid)).setCell ⟨g, j * 3, none⟩ (.int .i64 a.inst)).setCell ⟨g, j * 3 + 1, none⟩ (.int .i64 a.mins)).setCell ⟨g, j * 3 + 2, none⟩ (.string a.uid)).drewN q := by
  have hi0 : (0 : Int) ≤ i := by omega
  have hj0 : (0 : Int) ≤ j := by omega
  have hi1 : (i : Int) < n := by omega
  have hj1 : (j : Int) < n := by omega
  go_enter Tryz.func378, Tryz.ntmps378
  have f0 := fi (i * 3)
  have f1 := fi (i * 3 + 1)
  have f2 := fi (i * 3 + 2)
  have g0 := fi (j * 3)
  have g1 := fi (j * 3 + 1)
  have g2 := fi (j * 3 + 2)
  obtain ⟨w3, hw3⟩ : ∃ w3, w3 = ((w.setCell ⟨g, i * 3, none⟩ (.int .i64 b.inst)).setCell ⟨g, i * 3 + 1, none⟩ (.int .i64 b.mins)).setCell ⟨g, i * 3 + 2, none⟩ (.string b.uid) := ⟨_, rfl⟩
  have ex : ∀ {W : World} {p q : Addr} {x : Value}, (∃ v, W.cell? q = some v) → ∃ v, (W.setCell p x).cell? q = some v := fun ⟨v, h⟩ => cell?_setCell_some h
  obtain ⟨v0, h0⟩ : ∃ v, w3.cell? ⟨g, j * 3, none⟩ = some v := by rw [hw3]; exact ex (ex (ex ⟨_, b0⟩))
  obtain ⟨v1, h1⟩ : ∃ v, (w3.setCell ⟨g, j * 3, none⟩ (.int .i64 a.inst)).cell? ⟨g, j * 3 + 1, none⟩ = some v := by rw [hw3]; exact ex (ex (ex (ex ⟨_, b1⟩)))
  obtain ⟨v2, h2⟩ : ∃ v, ((w3.setCell ⟨g, j * 3, none⟩ (.int .i64 a.inst)).setCell ⟨g, j * 3 + 1, none⟩ (.int .i64 a.mins)).cell? ⟨g, j * 3 + 2, none⟩ = some v := by rw [hw3]; exact ex (ex (ex (ex (ex ⟨_, b2⟩))))
  rw [hw3] at h0 h1 h2
  clear ex hw3; clear fi; go_wp2
  go_region
  all_goals (try go_wp2)
  all_goals go_end0
  all_goals exact ⟨rfl, 1, rfl⟩
/-- A row of one's own is kept where its block is. -/
theorem rowA_kept {lo n c g : Nat} {l : List Ent} {W W' : World} (h : RowA lo W (.slice (some ⟨g, 0, none⟩) n c) l) (hg : W'.heap[g]? = W.heap[g]?) : RowA lo W' (.slice (some ⟨g, 0, none⟩) n c) l := by
  refine ⟨h.1, ?_⟩
  rcases h.2 with ⟨h1, _⟩ | ⟨g', cap, cur, hv, hb, hh, rest⟩
  · cases h1
  · simp only [Value.slice.injEq, Option.some.injEq, Addr.mk.injEq, and_true] at hv
    obtain ⟨rfl, hv⟩ := hv; exact .inr ⟨g, cap, cur, by simp [hv], hb, hg.trans hh, rest⟩
theorem swp_list (d : Array Ent) (i j : Nat) (hi : i < d.size) (hj : j < d.size) : (Sort.swp d i j).toList = (d.toList.set i d[j]!).set j d[i]! := by
  unfold Sort.swp; simp [hi, hj]

set_option maxHeartbeats 2000000 in
/-- What the agenda's methods do. -/
theorem famA (lo g ca n : Nat) (w : World) (hg : g < w.heap.size) (_hlo : lo ≤ w.heap.size) (hlg : lo ≤ g) :
    Fam Tryz.prog (.slice (some ⟨g, 0, none⟩) n ca) 377 378 Tt.entLt n w.heap.size (fun W d => d.size = n ∧ w.heap.size ≤ W.heap.size ∧ RowA lo W (.slice (some ⟨g, 0, none⟩) n ca) d.toList ∧ Below lo w W) where
  size := fun h => h.1
  top := fun h => h.2.1
  drew := fun h q => ⟨h.1, h.2.1, h.2.2.1, below_drew h.2.2.2⟩
  alloc := fun h o => ⟨h.1, by have := h.2.1; simp; omega, World.ownsRow.alloc h.2.2.1 o, h.2.2.2.alloc (by have := h.2.1; omega) o⟩
  setn := fun h b o v hb => ⟨h.1, by have := h.2.1; simpa using this, rowA_kept h.2.2.1 (Below.heap_setCell _ _ _ _ (by show g ≠ b; omega)), h.2.2.2.setCell (by show lo ≤ b; omega) _⟩
  less := fun {W d} h i j hi hj => by
    have hR := h.2.2.1; have hz := h.1; have cell : ∀ q, q < n * 3 → W.cell? ⟨g, q, none⟩ = (aCells d.toList)[q]? := fun q hq => by
      have hr : W.ownsRow lo 57 3 (.slice (some ⟨g, 0, none⟩) n ca) n (aCells d.toList) := by have := hR; unfold RowA at this; rw [Array.length_toList, hz] at this; exact this
      exact hr.cellAt q hq
    have ha := aCells_at d.toList i d[i]! (by rw [Array.getElem?_toList, Array.getElem?_eq_getElem (by omega), getElem!_pos d i (by omega)])
    have hb := aCells_at d.toList j d[j]! (by rw [Array.getElem?_toList, Array.getElem?_eq_getElem (by omega), getElem!_pos d j (by omega)])
    exact less377 g n ca i j d[i]! d[j]! W hi hj ((cell _ (by omega)).trans ha.1) ((cell _ (by omega)).trans ha.2.2) ((cell _ (by omega)).trans hb.1) ((cell _ (by omega)).trans hb.2.2)
  swap := fun {W d} h i j hi hj => by
    have hR := h.2.2.1; have hz := h.1; have hr : W.ownsRow lo 57 3 (.slice (some ⟨g, 0, none⟩) n ca) n (aCells d.toList) := by have := hR; unfold RowA at this; rw [Array.length_toList, hz] at this; exact this
    have cell : ∀ q, q < n * 3 → W.cell? ⟨g, q, none⟩ = (aCells d.toList)[q]? := fun q hq => hr.cellAt q hq
    have ha := aCells_at d.toList i d[i]! (by rw [Array.getElem?_toList, Array.getElem?_eq_getElem (by omega), getElem!_pos d i (by omega)])
    have hb := aCells_at d.toList j d[j]! (by rw [Array.getElem?_toList, Array.getElem?_eq_getElem (by omega), getElem!_pos d j (by omega)])
    refine (swap378 g n ca i j d[i]! d[j]! W hi hj ((cell _ (by omega)).trans ha.1) ((cell _ (by omega)).trans ha.2.1) ((cell _ (by omega)).trans ha.2.2) (fun q => hr.frozenAt q) ((cell _ (by omega)).trans hb.1) ((cell _ (by omega)).trans hb.2.1) ((cell _ (by omega)).trans hb.2.2)).mono ?_
    rintro e w' ⟨rfl, q, hw⟩; have k1 := ownsRow_setAll [.int .i64 d[j]!.inst, .int .i64 d[j]!.mins, .string d[j]!.uid] (i * 3) (aCells d.toList) W hr (by simp; omega)
    have k2 := ownsRow_setAll [.int .i64 d[i]!.inst, .int .i64 d[i]!.mins, .string d[i]!.uid] (j * 3) _ _ k1.1 (by simp; omega)
    have hG := k1.2.trans k2.2
    have hw : w' = (setAll (setAll W g (i * 3) [.int .i64 d[j]!.inst, .int .i64 d[j]!.mins, .string d[j]!.uid]) g (j * 3) [.int .i64 d[i]!.inst, .int .i64 d[i]!.mins, .string d[i]!.uid]).drewN q := hw
    have hC : RowA lo (setAll (setAll W g (i * 3) [.int .i64 d[j]!.inst, .int .i64 d[j]!.mins, .string d[j]!.uid]) g (j * 3) [.int .i64 d[i]!.inst, .int .i64 d[i]!.mins, .string d[i]!.uid]) (.slice (some ⟨g, 0, none⟩) n ca) (Sort.swp d i j).toList := by
      unfold RowA
      rw [swp_list d i j (by omega) (by omega), List.length_set, List.length_set, Array.length_toList, hz, aCells_set _ j _ (by simp; omega), aCells_set _ i _ (by simp; omega)]
      exact k2.1
    generalize setAll (setAll W g (i * 3) [.int .i64 d[j]!.inst, .int .i64 d[j]!.mins, .string d[j]!.uid]) g (j * 3) [.int .i64 d[i]!.inst, .int .i64 d[i]!.mins, .string d[i]!.uid] = Z at hw hC hG
    rw [hw]
    refine ⟨rfl, ⟨by rw [Sort.size_swp]; exact hz, Nat.le_trans h.2.1 hG.size, hC, below_drew (below_grownBy h.2.2.2 hr (Nat.le_refl _) (by have := h.2.1; omega) hG)⟩, hG.size, fun b hb hb2 => hG.block b hb2 (by intro e; cases e; omega)⟩

/-- sort.Sort over an agenda. -/
theorem sort87 (lo : Nat) (pa : Option Addr) (ca : Nat) (l : List Ent) (w : World) (hR : RowA lo w (.slice pa l.length ca) l) (hlo : lo ≤ w.heap.size) (hn : l.length ≤ 1000000000) :
    Calls Tryz.prog 87 #[.iface 139 (.slice pa l.length ca)] w fun e w' => e = .returned (.tuple #[]) ∧ ∃ l', l.Perm l' ∧ Sort.SortedIn Tt.entLt 0 l'.length l'.toArray ∧ RowA lo w' (.slice pa l.length ca) l' ∧ Below lo w w' := by
  by_cases h1 : l.length ≤ 1
  · refine (sort87_small pa l.length ca w h1).mono ?_
    rintro e w' ⟨rfl, rfl⟩; exact ⟨rfl, l, List.Perm.refl _, fun i j _ hij hj => by omega, hR, Below.refl _ _⟩
  · obtain ⟨g, hpa, hlg, hg⟩ : ∃ g, pa = some ⟨g, 0, none⟩ ∧ lo ≤ g ∧ g < w.heap.size := by
      rcases hR.2 with ⟨_, h0⟩ | ⟨g, cap, cur, hv, hb, hh, _⟩
      · omega
      · simp only [Value.slice.injEq] at hv
        exact ⟨g, hv.1, hb, (Array.getElem?_eq_some_iff.1 hh).1⟩
    subst hpa; have hF := famA lo g ca l.length w hg hlo hlg
    have hs := sort11 (P := Tryz.prog) (ρ := Tryz.sortI_ren) Tryz.sortI 139 (gn := 376) ⟨fun _ => by kernel_rfl, enters_of Tryz.func377 (by kernel_rfl) rfl⟩ ⟨fun _ => by kernel_rfl, enters_of Tryz.func378 (by kernel_rfl) rfl⟩ hF ⟨fun _ => by kernel_rfl, enters_of Tryz.func376 (by kernel_rfl) rfl⟩ Tt.swo_ent (by omega) (d := l.toArray) (w := w) ⟨by simp, Nat.le_refl _, by simpa using hR, Below.refl _ _⟩
      ((len376 _ _ _ w).mono fun e w' ⟨he, hw⟩ => ⟨he, 0, hw⟩)
    refine Calls.mono hs ?_
    rintro e w' ⟨rfl, d', hp, hso, hz, _, hC, hb⟩; have hl : d'.toList.length = l.length := by rw [Array.length_toList, hz]
    refine ⟨rfl, d'.toList, ?_, ?_, hC, hb⟩
    · have h3 := hp.2.2; rw [show d'.extract 0 l.toArray.size = d' by rw [Array.extract_eq_self_of_le (by simp [hz])], show l.toArray.extract 0 l.toArray.size = l.toArray by simp] at h3
      exact h3.symm
    · rw [hl]
      simpa using hso
end Go.Proofs.YtageielcdebjlaaGreatDoor
