/- The comparison of two events that feed.Make sorts by. slices.SortFunc at events, by their identifiers: the kit's contract laid at this dump. -/
import Derived.Test.YtcomifbfldoeiaaGreatDoorPk26
import Derived.Test.YtcomifbfldoeiaaGreatDoorChgO
import Derived.RegionTactic
import Derived.ChangeAlike
import Derived.BigRegion
import Derived.Test.YtcomifbfldoeiaaGreatDoorShelf
import Derived.Shelf.SlSortCmp.NoneTotal
namespace Go.Proofs.YtcomifbfldoeiaaGreatDoor
open Go.RowKit Go.Sort

set_option maxHeartbeats 8000000 in
set_option maxRecDepth 100000 in
theorem less129 (ea eb : Ev) (p p2 q q2 : Option Addr) (n n2 m m2 c c2 d d2 : Nat) (w : World) :
    Calls Tryz.prog 83 #[.agg #[.string ea.uid, .int .i64 ea.seq, .bool ea.canc, .int .i64 ea.days.first, .int .i64 ea.days.last, .int .i64 ea.days.every, .int .i64 ea.days.wd, .slice p n c, .slice p2 n2 c2, .int .i64 ea.start, .int .i64 ea.mins, .string ea.summ, .string ea.loc], .agg #[.string eb.uid, .int .i64 eb.seq, .bool eb.canc, .int .i64 eb.days.first, .int .i64 eb.days.last, .int .i64 eb.days.every, .int .i64 eb.days.wd, .slice q m d, .slice q2 m2 d2, .int .i64 eb.start, .int .i64 eb.mins, .string eb.summ, .string eb.loc]] w fun e w' => e = .returned (.int .i64 (Lib.compareBytes ea.uid.data.toList eb.uid.data.toList)) ∧ ∃ q os', w' = grow (w.drewN q) os' := by
  obtain ⟨X, hX⟩ : ∃ x, x = w.heap.size := ⟨_, rfl⟩
  obtain ⟨Y, hY⟩ : ∃ x, x = w.heap.size + 1 := ⟨_, rfl⟩
  obtain ⟨w0, hw0⟩ : ∃ x, x = (w.alloc (.cells #[.string ea.uid, .int .i64 ea.seq, .bool ea.canc, .int .i64 ea.days.first, .int .i64 ea.days.last, .int .i64 ea.days.every, .int .i64 ea.days.wd, .slice p n c, .slice p2 n2 c2, .int .i64 ea.start, .int .i64 ea.mins, .string ea.summ, .string ea.loc] 104)).alloc (.cells #[.string eb.uid, .int .i64 eb.seq, .bool eb.canc, .int .i64 eb.days.first, .int .i64 eb.days.last, .int .i64 eb.days.every, .int .i64 eb.days.wd, .slice q m d, .slice q2 m2 d2, .int .i64 eb.start, .int .i64 eb.mins, .string eb.summ, .string eb.loc] 104) := ⟨_, rfl⟩
  have HX0 := Lib.hid (show Blk X #[.string ea.uid, .int .i64 ea.seq, .bool ea.canc, .int .i64 ea.days.first, .int .i64 ea.days.last, .int .i64 ea.days.every, .int .i64 ea.days.wd, .slice p n c, .slice p2 n2 c2, .int .i64 ea.start, .int .i64 ea.mins, .string ea.summ, .string ea.loc] 104 w0 from by rw [hw0, hX]; exact (Blk.new w _ _).alloc _)
  have HY0 := Lib.hid (show Blk Y #[.string eb.uid, .int .i64 eb.seq, .bool eb.canc, .int .i64 eb.days.first, .int .i64 eb.days.last, .int .i64 eb.days.every, .int .i64 eb.days.wd, .slice q m d, .slice q2 m2 d2, .int .i64 eb.start, .int .i64 eb.mins, .string eb.summ, .string eb.loc] 104 w0 from by rw [hw0, hY]; exact Blk.new' _ _ _ (by simp))
  have HG := Lib.hid (show ∃ os', w0 = grow w os' from ⟨_, by rw [hw0, alloc_eq_grow, alloc_eq_grow, grow_grow]⟩)
  have HC := Lib.hid (fun W => Tryz.strings_Compare ea.uid eb.uid W)
  obtain ⟨r, hr⟩ : ∃ r, r = Lib.compareBytes ea.uid.data.toList eb.uid.data.toList := ⟨_, rfl⟩
  rw [← hr] at HC ⊢
  clear hr; go_enter Tryz.func83, Tryz.ntmps83
  go_upto_region 1 with (fail)
  rw [← hw0, ← hY, ← hX]; clear hw0 hX hY; have x1 : w0.cell? ⟨X, 0, none⟩ = some (.string ea.uid) := HX0.out.cell 0
  have y1 : w0.cell? ⟨Y, 0, none⟩ = some (.string eb.uid) := HY0.out.cell 0
  have hxl := HX0.out.lt; have hyl := HY0.out.lt; go_wp2_with (go_at_call 84; (with_reducible refine (HC.out _).mono ?_); rintro e w5 ⟨rfl, rfl⟩)
  go_ret; obtain ⟨os', h⟩ := HG.out
  exact ⟨rfl, 0, os', h⟩
end Go.Proofs.YtcomifbfldoeiaaGreatDoor
namespace Go.Proofs
open Go.Shelf
def Tryz.sortE_ren : Go.Shelf.Ren := ⟨fun | 6 => 82 | 15 => 145 | 14 => 144 | 28 => 211 | 29 => 212 | 20 => 203 | 21 => 204 | 22 => 205 | 23 => 206 | 24 => 207 | 25 => 208 | 26 => 209 | 27 => 210 | 46 => 261 | 47 => 262 | 48 => 263 | 49 => 264 | 50 => 265 | 57 => 306 | n => n, fun | 22 => 47 | 24 => 104 | 25 => 167 | 3 => 3 | 39 => 197 | 0 => 0 | 53 => 246 | 55 => 266 | 4 => 4 | 46 => 259 | 45 => 258 | 50 => 131 | 5 => 5 | 9 => 9 | 66 => 288 | 70 => 292 | 76 => 319 | 77 => 320 | n => n, fun | n => n⟩
theorem Tryz.sortE : Go.Proofs.SlLaysF0.n6 Tryz.prog Tryz.sortE_ren := {
  mixed := by kernel_rfl
  f6 := ⟨Tryz.f82.name, by decide, Tryz.func82.trans (congrArg some (by kernel_rfl))⟩
  f14 := ⟨Tryz.f144.name, by decide, Tryz.func144.trans (congrArg some (by kernel_rfl))⟩
  f15 := Tryz.func145.trans (congrArg some (by kernel_rfl))
  f20 := ⟨Tryz.f203.name, by decide, Tryz.func203.trans (congrArg some (by kernel_rfl))⟩
  f21 := ⟨Tryz.f204.name, by decide, Tryz.func204.trans (congrArg some (by kernel_rfl))⟩
  f22 := ⟨Tryz.f205.name, by decide, Tryz.func205.trans (congrArg some (by kernel_rfl))⟩
  f23 := ⟨Tryz.f206.name, by decide, Tryz.func206.trans (congrArg some (by kernel_rfl))⟩
  f24 := ⟨Tryz.f207.name, by decide, Tryz.func207.trans (congrArg some (by kernel_rfl))⟩
  f25 := ⟨Tryz.f208.name, by decide, Tryz.func208.trans (congrArg some (by kernel_rfl))⟩
  f26 := ⟨Tryz.f209.name, by decide, Tryz.func209.trans (congrArg some (by kernel_rfl))⟩
  f27 := ⟨Tryz.f210.name, by decide, Tryz.func210.trans (congrArg some (by kernel_rfl))⟩
  f28 := Tryz.func211.trans (congrArg some (by kernel_rfl))
  f29 := Tryz.func212.trans (congrArg some (by kernel_rfl))
  f46 := ⟨Tryz.f261.name, by decide, Tryz.func261.trans (congrArg some (by kernel_rfl))⟩
  f47 := Tryz.func262.trans (congrArg some (by kernel_rfl))
  f48 := Tryz.func263.trans (congrArg some (by kernel_rfl))
  f49 := ⟨Tryz.f264.name, by decide, Tryz.func264.trans (congrArg some (by kernel_rfl))⟩
  f50 := ⟨Tryz.f265.name, by decide, Tryz.func265.trans (congrArg some (by kernel_rfl))⟩
  f57 := ⟨Tryz.f306.name, by decide, Tryz.func306.trans (congrArg some (by kernel_rfl))⟩
  t0 := Tryz.underlying0
  a0 := Tryz.isAgg0
  z0 := Tryz.sizeOf0
  v0 := Tryz.zeroValue0
  t3 := Tryz.underlying3
  a3 := Tryz.isAgg3
  z3 := Tryz.sizeOf3
  v3 := Tryz.zeroValue3
  t4 := Tryz.underlying4
  a4 := Tryz.isAgg4
  z4 := Tryz.sizeOf4
  v4 := Tryz.zeroValue4
  t5 := Tryz.underlying5
  a5 := Tryz.isAgg5
  z5 := Tryz.sizeOf5
  v5 := Tryz.zeroValue5
  t9 := Tryz.underlying9
  a9 := Tryz.isAgg9
  z9 := Tryz.sizeOf9
  v9 := Tryz.zeroValue9
  t22 := Tryz.underlying47
  a22 := Tryz.isAgg47
  z22 := Tryz.sizeOf47
  v22 := Tryz.zeroValue47
  t25 := Tryz.underlying167
  a25 := Tryz.isAgg167
  z25 := Tryz.sizeOf167
  v25 := Tryz.zeroValue167
  t39 := Tryz.underlying197
  a39 := Tryz.isAgg197
  z39 := Tryz.sizeOf197
  v39 := Tryz.zeroValue197
  t45 := Tryz.underlying258
  a45 := Tryz.isAgg258
  z45 := Tryz.sizeOf258
  v45 := Tryz.zeroValue258
  t46 := Tryz.underlying259
  a46 := Tryz.isAgg259
  z46 := Tryz.sizeOf259
  v46 := Tryz.zeroValue259
  t50 := Tryz.underlying131
  a50 := Tryz.isAgg131
  z50 := Tryz.sizeOf131
  v50 := Tryz.zeroValue131
  t53 := Tryz.underlying246
  a53 := Tryz.isAgg246
  z53 := Tryz.sizeOf246
  v53 := Tryz.zeroValue246
  t55 := Tryz.underlying266
  a55 := Tryz.isAgg266
  z55 := Tryz.sizeOf266
  v55 := Tryz.zeroValue266
  t66 := Tryz.underlying288
  a66 := Tryz.isAgg288
  z66 := Tryz.sizeOf288
  v66 := Tryz.zeroValue288
  t70 := Tryz.underlying292
  a70 := Tryz.isAgg292
  z70 := Tryz.sizeOf292
  v70 := Tryz.zeroValue292
  t76 := Tryz.underlying319
  a76 := Tryz.isAgg319
  z76 := Tryz.sizeOf319
  v76 := Tryz.zeroValue319
  t77 := Tryz.underlying320
  a77 := Tryz.isAgg320
  z77 := Tryz.sizeOf320
  v77 := Tryz.zeroValue320 }
end Go.Proofs
namespace Go.Proofs.YtcomifbfldoeiaaGreatDoor
open Go.RowKit Go.Sort Go.Shelf

/-! ### A row of values, cells laid anew -/
theorem holds_blockV {w : World} {g : Nat} {cur F : Array Value} {e : TypeId} (hb : w.heap[g]? = some (.cells cur e (0, 0))) (ht : cur.toList.take F.size = F.toList) : Holds id w g 0 F := by
  intro j hj; refine ⟨?_, by simp [World.frozen?, hb]⟩
  have h1 : (cur.toList.take F.size)[j]? = F.toList[j]? := by rw [ht]
  rw [List.getElem?_take_of_lt hj] at h1
  simp only [World.cell?, hb, Nat.zero_add]
  simp only [Option.isSome_none, Bool.false_eq_true, if_false]
  rw [← Array.getElem?_toList, h1]
  simp [hj]
theorem heap_sortedV {w : World} {g n : Nat} {os : Array Obj} {cur : Array Value} {e : TypeId} {fr : Nat × Nat} (F : Array Value) (hb : w.heap[g]? = some (.cells cur e fr)) :
    (grow (putRow id (Sort.ahead w n) g 0 F) os).heap[g]? = some (.cells (putCells id 0 F cur) e fr) := by
  have hg : g < w.heap.size := (Array.getElem?_eq_some_iff.1 hb).1
  rw [heap_grow_old _ _ (by simpa using hg)]
  simp [putRow, mapBlock, Sort.ahead, Array.getElem?_modify, hb, onCells]
theorem grownBy_sortedV {w : World} {g n : Nat} {os : Array Obj} (F : Array Value) : w.grownBy (grow (putRow id (Sort.ahead w n) g 0 F) os) (some g) := by
  refine ⟨rfl, rfl, rfl, by simp, fun k hk hne => ?_⟩
  rw [heap_grow_old _ _ (by simpa using hk)]
  have : g ≠ k := fun e => hne (by rw [e])
  simp [putRow, mapBlock, Sort.ahead, Array.getElem?_modify, this]
theorem take_putCellsV (cur F : Array Value) (h : F.size ≤ cur.size) : (putCells id 0 F cur).toList.take F.size = F.toList := by
  apply List.ext_getElem?
  intro j; by_cases hj : j < F.size
  · rw [List.getElem?_take_of_lt hj, Array.getElem?_toList]
    simp [putCells, hj, show j < cur.size by omega]
  · rw [List.getElem?_take_eq_none (by omega), List.getElem?_eq_none (by simp; omega)]

/-! ### Events as cells -/
/-- A list value in its own form. -/
def fixV : Value → Value
  | .slice p n c => .slice p n c
  | _ => .slice none 0 0
theorem fixV_form (v : Value) : ∃ p n c, fixV v = .slice p n c := by
  cases v <;> exact ⟨_, _, _, rfl⟩
def fixT (t : Tri) : Tri := (t.1, fixV t.2.1, fixV t.2.2)
def encT (t : Tri) : List Value := (evCells t.1 (fixV t.2.1) (fixV t.2.2)).toList
theorem encT_len (t : Tri) : (encT t).length = 13 := rfl
theorem encT_one (t : Tri) : ∀ v ∈ encT t, v.oneCell' = true := by
  obtain ⟨p, n, c, e1⟩ := fixV_form t.2.1
  obtain ⟨q, m, d, e2⟩ := fixV_form t.2.2
  unfold encT
  rw [e1, e2]
  intro v hv; simp only [evCells, List.mem_cons, List.not_mem_nil, or_false] at hv
  rcases hv with rfl | rfl | rfl | rfl | rfl | rfl | rfl | rfl | rfl | rfl | rfl | rfl | rfl <;> rfl
theorem fixT_ref {lo : Nat} {w : World} {t : Tri} (h : RefT lo w t) : fixT t = t := by
  obtain ⟨_, hx, hy⟩ := h; obtain ⟨ax, cx, e1, _⟩ := hx.ints
  obtain ⟨ay, cy, e2, _⟩ := hy.ints
  obtain ⟨e, v, v'⟩ := t; simp only at e1 e2
  subst e1 e2
  rfl
theorem fixT_all {lo : Nat} {w : World} {ts : List Tri} (h : ∀ t ∈ ts, RefT lo w t) : ts.map fixT = ts := by
  refine (List.map_congr_left (fun t ht => fixT_ref (h t ht))).trans (List.map_id _)
theorem flat_cells [Inhabited Tri] (d : Array Tri) : (flatK encT 13 d).toList = tCells (d.toList.map fixT) := by
  apply List.ext_getElem?
  intro t; by_cases ht : t < d.size * 13
  · have hd : t / 13 < d.size := by omega
    have h1 := tCells_get (d.toList.map fixT) (t / 13) (t % 13) (fixT d[t / 13]!) (by simp [hd]) (by omega)
    rw [show t / 13 * 13 + t % 13 = t by omega] at h1
    rw [h1, Array.getElem?_toList]
    have h2 := get_flatK encT 13 d t ht; rw [Array.getElem?_eq_getElem (by simpa using ht)]
    rw [getElem!_pos _ t (by simpa using ht)] at h2
    rw [h2]
    have h3 : t % 13 < (encT d[t / 13]!).length := by rw [encT_len]; omega
    rw [getElem!_pos _ (t % 13) h3]
    exact (List.getElem?_eq_getElem h3).symm
  · rw [List.getElem?_eq_none (by simp; omega), List.getElem?_eq_none (by rw [tCells_len]; simp; omega)]
/-- The order of their identifiers. -/
def cmpT (x y : Tri) : Int := Lib.compareBytes x.1.uid.data.toList y.1.uid.data.toList
theorem ltT (x y : Tri) : ltOf cmpT x y = lessU x.1.uid y.1.uid := by
  unfold ltOf
  rw [Bool.eq_iff_iff, decide_eq_true_eq]
  exact cmpU_less _ _
theorem swoT : SWO (ltOf cmpT) where
  irrefl x := by rw [ltT]; exact lessU_irrefl _
  trans x y z h1 h2 := by rw [ltT] at *; exact lessU_trans h1 h2
  ntrans x y z h1 h2 := by
    rw [ltT] at *
    by_cases e1 : x.1.uid = y.1.uid
    · rw [e1]; exact h2
    · by_cases e2 : y.1.uid = z.1.uid
      · rw [← e2]; exact h1
      · have k1 := less_total (by simpa using h1) e1
        have k2 := less_total (by simpa using h2) e2
        cases h : lessU x.1.uid z.1.uid with
        | false => rfl
        | true =>
          have := lessU_trans (lessU_trans h k2) k1
          rw [lessU_irrefl] at this; cases this
theorem enc_arr (t : Tri) (p q : Option Addr) (n c m d : Nat) (e1 : fixV t.2.1 = .slice p n c) (e2 : fixV t.2.2 = .slice q m d) : (encT t).toArray = #[.string t.1.uid, .int .i64 t.1.seq, .bool t.1.canc, .int .i64 t.1.days.first, .int .i64 t.1.days.last, .int .i64 t.1.days.every, .int .i64 t.1.days.wd, .slice p n c, .slice q m d, .int .i64 t.1.start, .int .i64 t.1.mins, .string t.1.summ, .string t.1.loc] := by
  unfold encT
  rw [e1, e2]
  rfl
theorem cmpLays [Inhabited Tri] (blk off size : Nat) (w : World) : CmpLays Tryz.prog 83 #[] encT 13 cmpT blk off size w := by
  intro m os dk _ x y; obtain ⟨p, n, c, e1⟩ := fixV_form x.2.1
  obtain ⟨p2, n2, c2, e2⟩ := fixV_form x.2.2
  obtain ⟨q, m1, d, e3⟩ := fixV_form y.2.1
  obtain ⟨q2, m2, d2, e4⟩ := fixV_form y.2.2
  rw [enc_arr x _ _ _ _ _ _ e1 e2, enc_arr y _ _ _ _ _ _ e3 e4]
  exact less129 x.1 y.1 p p2 q q2 n n2 m1 m2 c c2 d d2 _
theorem asc_of {lo : Nat} {d : Array Tri} [Inhabited Tri] (ho : d.toList.Pairwise (fun a c => a.1.uid ≠ c.1.uid)) (hs : SortedIn (ltOf cmpT) lo d.size d) (hl : lo = 0) : AscU (d.toList.map (·.1)) := by
  subst hl; unfold AscU
  rw [List.pairwise_map, List.pairwise_iff_getElem]
  intro i j hi hj hij; have h1 := hs i j (Nat.zero_le _) hij (by simpa using hj)
  rw [getElem!_pos d i (by simpa using hi), getElem!_pos d j (by simpa using hj), ltT] at h1
  have h2 := (List.pairwise_iff_getElem.1 ho) i j hi hj hij
  simp only [Array.getElem_toList] at h2 ⊢
  exact less_total (by simpa using h1) (Ne.symm h2)
theorem perm_of {d d' : Array Tri} [Inhabited Tri] (h : PermIn 0 d.size d d') : d'.toList.Perm d.toList := by
  obtain ⟨h1, _, h2⟩ := h; have e1 : d'.extract 0 d.size = d' := by rw [← h1]; simp
  have e2 : d.extract 0 d.size = d := by simp
  rwa [e1, e2] at h2
set_option maxHeartbeats 4000000 in
set_option maxRecDepth 100000 in
theorem sort128 {lo B : Nat} {w : World} {v : Value} {ts : List Tri} (h : w.ownsRow B 104 13 v ts.length (tCells ts)) (href : ∀ t ∈ ts, RefT lo w t) (ho : ts.Pairwise (fun a c => a.1.uid ≠ c.1.uid)) (hn : ts.length ≤ 1000000) :
    Calls Tryz.prog 82 #[v, .func (.func 83) #[] #[]] w fun e w' => e = .returned (.tuple #[]) ∧ (∃ ts', w'.ownsRow B 104 13 v ts'.length (tCells ts') ∧ (∀ t ∈ ts', RefT lo w' t) ∧ ts'.Perm ts ∧ AscU (ts'.map (·.1))) ∧ w.grownBy w' v.ownBlock := by
  letI : Inhabited Tri := ⟨zeroT⟩
  have hk := h; obtain ⟨hlen, hr⟩ := h; rcases hr with ⟨rfl, h0⟩ | ⟨g, cap, cur, rfl, hlo, hb, hc1, hc2, hc3, htk⟩
  · have e0 : ts = [] := List.eq_nil_of_length_eq_zero h0
    subst e0; refine (AnyF.slices_SortFunc_none Tryz.sortE none 0 _ w).mono ?_
    rintro e w' ⟨rfl, rfl⟩; exact ⟨rfl, ⟨[], hk, href, List.Perm.refl _, List.Pairwise.nil⟩, World.grownBy.refl _ _⟩
  · have hF : (flatK encT 13 ts.toArray).toList = tCells ts := by rw [flat_cells, List.toList_toArray, fixT_all href]
    have hsz : (flatK encT 13 ts.toArray).size = ts.length * 13 := by simp
    have hH : HoldsK encT 13 w g 0 ts.toArray := holds_blockV hb (by rw [hsz, hF]; exact htk)
    have hg : g < w.heap.size := (Array.getElem?_eq_some_iff.1 hb).1
    have hcon := AnyQ.slices_SortFunc Tryz.sortE 13 (fun w => Tryz.isAgg104 w) (fun w => Tryz.sizeOf104 w) encT encT_len encT_one cmpT swoT 83 #[] g 0 cap ts.toArray w (enters_of Tryz.func83 (by kernel_rfl) rfl) (cmpLays _ _ _ _) hH hg (by simp; omega)
    refine hcon.mono ?_
    rintro e w' ⟨rfl, d', n, os, hp, hs, rfl⟩; have hP := perm_of hp; rw [List.toList_toArray] at hP
    have hd : d'.size = ts.length := by rw [hp.1]; simp
    have hO : d'.toList.Pairwise (fun a c => a.1.uid ≠ c.1.uid) := (hP.pairwise_iff (fun {_ _} hne => Ne.symm hne)).2 ho
    have hA := asc_of hO (by rw [hd]; simpa using hs) rfl
    have hG : w.grownBy (sortWorldK encT 13 w g 0 n d' os) (some g) := grownBy_sortedV _
    have hmem : ∀ t ∈ d'.toList, RefT lo w t := fun t ht => href t (hP.mem_iff.1 ht)
    have hF' : (flatK encT 13 d').toList = tCells d'.toList := by rw [flat_cells, fixT_all hmem]
    have hsz' : (flatK encT 13 d').size = ts.length * 13 := by simp [hd]
    have hl' : d'.toList.length = ts.length := by simpa using hd
    refine ⟨rfl, ⟨d'.toList, ?_, fun t ht => (hmem t ht).grown hk hG, hP, hA⟩, hG⟩
    rw [hl']
    refine ⟨by rw [tCells_len, hl'], .inr ⟨g, cap, _, rfl, hlo, heap_sortedV _ hb, hc1, hc2, by simp [putCells, hc3], ?_⟩⟩
    have := take_putCellsV cur (flatK encT 13 d') (by rw [hsz', hc3]; exact Nat.mul_le_mul_right 13 hc1)
    rw [hsz', hF'] at this
    exact this
end Go.Proofs.YtcomifbfldoeiaaGreatDoor
