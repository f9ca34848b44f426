/- What a row's condition says of the laid tables: the lengths of months and the powers of ten. An event that comes in as data: what its value is, and what lies in memory. A list of events that comes in as data: what lies in memory. A feed that comes in as data: its name, its version, its events. -/
import Derived.Test.YtageielcdebjlaaGreatDoorNum
import Derived.Test.YtageielcdebjlaaGreatDoorPk7
import Derived.Lib.LaidTab
import Derived.MakeChecks
import Derived.Test.YtageielcdebjlaaGreatDoorFeedV
import Derived.ProofKit
import Derived.OpenShut
import Derived.Deep.DeepHandedRow
import Derived.Test.YtageielcdebjlaaGreatDoorPk26
import Derived.Deep.Slices
import Derived.WalkKit
import Derived.Lay
import Derived.Shelf.Vars
namespace Go.Proofs.YtageielcdebjlaaGreatDoor
open Go.RowKit

theorem vars_at {P : Program} {w : World} : ∀ {l : List (String × DataW Unit)} {ps : List MemPlace}, DataW.LaidVars P w l ps → ∀ {i : Nat} {x : String × DataW Unit}, l[i]? = some x →
    ∃ g t cs fuel p, P.globalNamed x.1 = some g ∧ (P.globals[g]?).map (·.type) = some t ∧ w.var? P x.1 = some cs ∧ DataW.trod (fun _ => ()) P w 0 (fun _ => true) false fuel t cs.toList = some (x.2, p)
  | [], _, _, i, x, hx => by simp at hx
  | (n, d) :: r, ps, h, i, x, hx => by
    obtain ⟨g, t, cs, fuel, p, q, h1, h2, h3, h4, hr, _⟩ := h; cases i with
    | zero =>
      simp only [List.getElem?_cons_zero, Option.some.injEq] at hx
      subst hx; exact ⟨g, t, cs, fuel, p, h1, h2, h3, h4⟩
    | succ i => exact vars_at hr (by simpa using hx)
theorem laid_tab {W : World} {l : List (String × DataW Unit)} (h : laidMet Tryz.prog l W) {i g n : Nat} {t e : TypeId} {k : IntKind} {zs : List Int} {x : String × DataW Unit} (hx : l[i]? = some x) (hd : x.2 = Lib.tabData k zs) (hg : Tryz.prog.globalNamed x.1 = some g) (hty : (Tryz.prog.globals[g]?).map (·.type) = some t)
    (ht : Tryz.prog.underlying t = some (.array n e)) (he : Tryz.prog.underlying e = some (.int k)) (hce : Tryz.prog.cellsOf e = 1) (hct : Tryz.prog.cellsOf t = n) : ∃ u fr, W.heap[g]? = some (.cells (zs.map fun z => Value.int k z).toArray u fr) := by
  obtain ⟨ps, hl, _⟩ := h; obtain ⟨g', t', cs, fuel, p, h1, h2, h3, h4⟩ := vars_at hl hx
  obtain rfl := Option.some.inj (hg.symm.trans h1)
  obtain rfl := Option.some.inj (hty.symm.trans h2)
  rw [hd] at h4
  have hc := Lib.cells_of_tab ht he hce hct h4; unfold World.var? at h3
  rw [h1] at h3
  simp only [Option.bind_some] at h3
  split at h3
  · rename_i cs' u fr heq
    simp only [Option.some.injEq] at h3
    subst h3; exact ⟨u, fr, by rw [heq, ← hc]⟩
  · cases h3
theorem lens_laid {W : World} {l : List (String × DataW Unit)} (h : laidMet Tryz.prog l W) {i : Nat} {x : String × DataW Unit} (hx : l[i]? = some x) (hd : x.2 = Lib.tabData .i64 [31, 28, 31, 30, 31, 30, 31, 31, 30, 31, 30, 31]) (hg : Tryz.prog.globalNamed x.1 = some 3) : Lens W := by
  obtain ⟨u, fr, hh⟩ := laid_tab (g := 3) (t := 324) (e := 3) (n := 12) h hx hd hg (by kernel_rfl) (by kernel_rfl) (by kernel_rfl) (by kernel_rfl) (by kernel_rfl)
  intro j hj; have : W.cell? ⟨3, j, none⟩ = (([31, 28, 31, 30, 31, 30, 31, 31, 30, 31, 30, 31] : List Int).map fun z => Value.int .i64 z).toArray[j]? := by simp [World.cell?, hh]
  rw [this]
  exact (show ∀ j : Nat, j < 12 → (([31, 28, 31, 30, 31, 30, 31, 31, 30, 31, 30, 31] : List Int).map fun z => Value.int .i64 z).toArray[j]? = some (.int .i64 (([31, 28, 31, 30, 31, 30, 31, 31, 30, 31, 30, 31] : List Int).getD j 0)) from fun j hj => by
    rcases (show j = 0 ∨ j = 1 ∨ j = 2 ∨ j = 3 ∨ j = 4 ∨ j = 5 ∨ j = 6 ∨ j = 7 ∨ j = 8 ∨ j = 9 ∨ j = 10 ∨ j = 11 by omega) with rfl | rfl | rfl | rfl | rfl | rfl | rfl | rfl | rfl | rfl | rfl | rfl <;> rfl) j hj
theorem pow_laid {W : World} {l : List (String × DataW Unit)} (h : laidMet Tryz.prog l W) {i : Nat} {x : String × DataW Unit} (hx : l[i]? = some x) (hd : x.2 = Lib.tabData .u64 Lib.pow10Tab) (hg : Tryz.prog.globalNamed x.1 = some 6) : Pow W ∧ 6 < W.heap.size := by
  obtain ⟨u, fr, hh⟩ := laid_tab (g := 6) (t := 330) (e := 245) (n := 20) h hx hd hg (by kernel_rfl) (by kernel_rfl) (by kernel_rfl) (by kernel_rfl) (by kernel_rfl)
  exact ⟨⟨u, fr, hh⟩, (Array.getElem?_eq_some_iff.1 hh).1⟩
end Go.Proofs.YtageielcdebjlaaGreatDoor
namespace Go.Proofs.YtageielcdebjlaaGreatDoor
open Go Go.ChangeShapes Go.WideShapes Go.ChangeAt Go.RowKit

theorem rw_cells3 : Tryz.prog.cellsOf 3 = 1 := by kernel_rfl
theorem rw_cells4 : Tryz.prog.cellsOf 4 = 1 := by kernel_rfl
theorem rw_cells9 : Tryz.prog.cellsOf 9 = 1 := by kernel_rfl
theorem rw_cells27 : Tryz.prog.cellsOf 27 = 1 := by kernel_rfl
theorem rw_cells80 : Tryz.prog.cellsOf 80 = 6 := by kernel_rfl
theorem rw_cells82 : Tryz.prog.cellsOf 82 = 13 := by kernel_rfl
theorem rw_bytes3 : Tryz.prog.bytesOf 3 = 8 := by kernel_rfl

theorem list8 {α : Type} {l : List α} (h : l.length = 8) : ∃ c0 c1 c2 c3 c4 c5 c6 c7, l = [c0, c1, c2, c3, c4, c5, c6, c7] := by
  match l, h with
  | [c0, c1, c2, c3, c4, c5, c6, c7], _ => exact ⟨c0, c1, c2, c3, c4, c5, c6, c7, rfl⟩
theorem list6 {α : Type} {l : List α} (h : l.length = 6) : ∃ c0 c1 c2 c3 c4 c5, l = [c0, c1, c2, c3, c4, c5] := by
  match l, h with
  | [c0, c1, c2, c3, c4, c5], _ => exact ⟨c0, c1, c2, c3, c4, c5, rfl⟩

/-- A slice of whole numbers that comes in. -/
theorem open_nums {H : Type} {enc : TypeId × Value → H} {W : World} {n : Nat} {c : Value} {y : DataW H × List MemPlace} (h : DataW.trod enc Tryz.prog W 0 (fun _ => true) true n 27 [c] = some y) (hlt : ∀ x ∈ y.2, x.block < W.heap.size)
    (hr : (DataW.weights Tryz.prog 27 y.1).all (· ≤ reachBytes) = true) : ∃ ao cap, ∃ xs : List Int, c = .slice ao xs.length cap ∧ Ints W.heap.size W ao xs ∧ xs.length ≤ 140737488351232 := by
  rcases open_ints Tryz.underlying27 Tryz.underlying3 rw_cells3 h with ⟨hcs, hx⟩ | ⟨a, len, cap, zs, hcs, _, hl, hm, hz, hx, hcell, hwz⟩
  · simp at hcs
    exact ⟨none, 0, [], hcs, (fun j x hj => by simp at hj), by simp⟩
  · simp at hcs
    simp only [if_true] at hz
    have hxl : (zs.take len).length = len := by rw [List.length_take]; omega
    refine ⟨some a, cap, zs.take len, by rw [hxl]; exact hcs, fun j x hj => ?_, ?_⟩
    · have hj2 : j < len := by
        have := (List.getElem?_eq_some_iff.1 hj).1
        omega
      refine ⟨a, rfl, ?_, ?_⟩
      · refine hlt (.cell a.block a.off) ?_
        rw [hx]
        exact MemPlace.mem_row.2 ⟨0, by omega, by simp⟩
      · rw [hcell j (by omega)]
        rw [List.getElem?_take_of_lt hj2] at hj
        rw [List.getD_eq_getElem?_getD, hj]; rfl
    · rw [hx] at hr
      simp only [DataW.weights, Tryz.underlying27, List.all_cons, Bool.and_eq_true, decide_eq_true_eq] at hr
      have h1 := hr.1; rw [rw_bytes3] at h1
      have h2 : (lits (H := H) .i64 (zs.take len)).length = len := by simpa [lits] using hxl
      rw [h2] at h1
      unfold reachBytes at h1
      rw [hxl]
      omega

end Go.Proofs.YtageielcdebjlaaGreatDoor
namespace Go.Proofs.YtageielcdebjlaaGreatDoor
open Go Go.ChangeShapes Go.WideShapes Go.ChangeAt Go.RowKit

theorem list13 {α : Type} {l : List α} (h : l.length = 13) : ∃ c0 c1 c2 c3 c4 c5 c6 c7 c8 c9 c10 c11 c12, l = [c0, c1, c2, c3, c4, c5, c6, c7, c8, c9, c10, c11, c12] := by
  match l, h with
  | [c0, c1, c2, c3, c4, c5, c6, c7, c8, c9, c10, c11, c12], _ => exact ⟨c0, c1, c2, c3, c4, c5, c6, c7, c8, c9, c10, c11, c12, rfl⟩
theorem rw_bytes82 : Tryz.prog.bytesOf 82 = 160 := by kernel_rfl

set_option maxHeartbeats 4000000 in
set_option maxRecDepth 100000 in
theorem open_event_cells {H : Type} {enc : TypeId × Value → H} {W : World} {fuel : Nat} {cs : List Value} {d : DataW H} {p : List MemPlace} (hsz : cs.length = 13) (hf : DataW.trod enc Tryz.prog W 0 (fun _ => true) true fuel 82 cs = some (d, p))
    (hlt : ∀ x ∈ p, x.block < W.heap.size) (hr : (DataW.weights Tryz.prog 82 d).all (· ≤ reachBytes) = true) :
    ∃ (e : Ev) (pa pb : Option Addr) (ca cb : Nat), cs = (evCells e (.slice pa e.days.ex.length ca) (.slice pb e.days.xt.length cb)).toList ∧ EvB e ∧ Ints W.heap.size W pa e.days.ex ∧ Ints W.heap.size W pb e.days.xt := by
  obtain ⟨c0, c1, c2, c3, c4, c5, c6, c7, c8, c9, c10, c11, c12, rfl⟩ := list13 hsz
  obtain ⟨xs, n, rfl, hx, -, hlen, hfs⟩ := DataW.trod_struct Tryz.underlying82 hf
  obtain ⟨y0, y1, y2, y3, y4, y5, y6, y7, rfl⟩ := list8 hlen
  simp only [Prod.mk.injEq] at hx
  obtain ⟨rfl, rfl⟩ := hx; have f0 : DataW.trod enc Tryz.prog W 0 (fun _ => true) true n 9 [c0] = some y0 := by simpa [rw_cells9] using hfs 0 _ rfl
  have f1 : DataW.trod enc Tryz.prog W 0 (fun _ => true) true n 3 [c1] = some y1 := by simpa [rw_cells3] using hfs 1 _ rfl
  have f2 : DataW.trod enc Tryz.prog W 0 (fun _ => true) true n 4 [c2] = some y2 := by simpa [rw_cells4] using hfs 2 _ rfl
  have f3 : DataW.trod enc Tryz.prog W 0 (fun _ => true) true n 80 [c3, c4, c5, c6, c7, c8] = some y3 := by simpa [rw_cells80] using hfs 3 _ rfl
  have f4 : DataW.trod enc Tryz.prog W 0 (fun _ => true) true n 3 [c9] = some y4 := by simpa [rw_cells3] using hfs 4 _ rfl
  have f5 : DataW.trod enc Tryz.prog W 0 (fun _ => true) true n 3 [c10] = some y5 := by simpa [rw_cells3] using hfs 5 _ rfl
  have f6 : DataW.trod enc Tryz.prog W 0 (fun _ => true) true n 9 [c11] = some y6 := by simpa [rw_cells9] using hfs 6 _ rfl
  have f7 : DataW.trod enc Tryz.prog W 0 (fun _ => true) true n 9 [c12] = some y7 := by simpa [rw_cells9] using hfs 7 _ rfl
  clear hfs hf hlen; obtain ⟨s0, e0, g0, w0⟩ := DataW.trod_string Tryz.underlying9 f0
  obtain ⟨n1, e1, g1, -⟩ := DataW.trod_int Tryz.underlying3 f1
  obtain ⟨b2, e2, g2⟩ := DataW.trod_bool Tryz.underlying4 f2
  obtain ⟨n4, e4, g4, -⟩ := DataW.trod_int Tryz.underlying3 f4
  obtain ⟨n5, e5, g5, -⟩ := DataW.trod_int Tryz.underlying3 f5
  obtain ⟨s6, e6, g6, w6⟩ := DataW.trod_string Tryz.underlying9 f6
  obtain ⟨s7, e7, g7, w7⟩ := DataW.trod_string Tryz.underlying9 f7
  obtain ⟨zs, k, rfl, hz, -, hlen, hfs⟩ := DataW.trod_struct Tryz.underlying80 f3
  obtain ⟨z0, z1, z2, z3, z4, z5, rfl⟩ := list6 hlen
  have k0 : DataW.trod enc Tryz.prog W 0 (fun _ => true) true k 3 [c3] = some z0 := by simpa [rw_cells3] using hfs 0 _ rfl
  have k1 : DataW.trod enc Tryz.prog W 0 (fun _ => true) true k 3 [c4] = some z1 := by simpa [rw_cells3] using hfs 1 _ rfl
  have k2 : DataW.trod enc Tryz.prog W 0 (fun _ => true) true k 3 [c5] = some z2 := by simpa [rw_cells3] using hfs 2 _ rfl
  have k3 : DataW.trod enc Tryz.prog W 0 (fun _ => true) true k 3 [c6] = some z3 := by simpa [rw_cells3] using hfs 3 _ rfl
  have k4 : DataW.trod enc Tryz.prog W 0 (fun _ => true) true k 27 [c7] = some z4 := by simpa [rw_cells27] using hfs 4 _ rfl
  have k5 : DataW.trod enc Tryz.prog W 0 (fun _ => true) true k 27 [c8] = some z5 := by simpa [rw_cells27] using hfs 5 _ rfl
  clear hfs hlen f3; obtain ⟨m0, d0, q0, -⟩ := DataW.trod_int Tryz.underlying3 k0
  obtain ⟨m1, d1, q1, -⟩ := DataW.trod_int Tryz.underlying3 k1
  obtain ⟨m2, d2, q2, -⟩ := DataW.trod_int Tryz.underlying3 k2
  obtain ⟨m3, d3, q3, -⟩ := DataW.trod_int Tryz.underlying3 k3
  simp only [List.cons.injEq, and_true] at e0 e1 e2 e4 e5 e6 e7 d0 d1 d2 d3
  subst e0 e1 e2 e4 e5 e6 e7 d0 d1 d2 d3
  subst hz; subst g0 g1 g2 g4 g5 g6 g7 q0 q1 q2 q3
  simp only [DataW.weights, DataW.weightsEach, Tryz.underlying82, Tryz.underlying80, List.map_cons, List.map_nil, List.all_append, List.all_cons, List.all_nil, Bool.and_true, Bool.and_eq_true, decide_eq_true_eq, List.nil_append, List.append_nil, List.cons_append] at hr
  obtain ⟨r0, ⟨r4, r5⟩, r6, r7⟩ := hr
  obtain ⟨pa, ca, ex, rfl, ia, la⟩ := open_nums k4 (fun x hx => hlt x (by simp [hx])) r4
  obtain ⟨pb, cb, xt, rfl, ib, lb⟩ := open_nums k5 (fun x hx => hlt x (by simp [hx])) r5
  have e0 : s0.data.toList.length = s0.size := by rw [Array.length_toList]; rfl
  have e6 : s6.data.toList.length = s6.size := by rw [Array.length_toList]; rfl
  have e7 : s7.data.toList.length = s7.size := by rw [Array.length_toList]; rfl
  unfold reachBytes at r0 r6 r7
  exact ⟨⟨s0, n1, b2, ⟨m0, m1, m2, m3, ex, xt⟩, n4, n5, s6, s7⟩, pa, pb, ca, cb, rfl, ⟨by show ex.length ≤ _; omega, by show xt.length ≤ _; omega, by show s0.size ≤ _; omega, by show s6.size ≤ _; omega, by show s7.size ≤ _; omega⟩, ia, ib⟩

theorem weightsAll_mem {H : Type} {t : TypeId} {f : Nat → Bool} : ∀ {l : List (DataW H)} {d : DataW H}, d ∈ l → (DataW.weightsAll Tryz.prog t l).all f = true → (DataW.weights Tryz.prog t d).all f = true
  | a :: r, d, hd, h => by
    simp only [DataW.weightsAll, List.all_append, Bool.and_eq_true] at h
    rcases List.mem_cons.1 hd with rfl | hd
    · exact h.1
    · exact weightsAll_mem hd h.2
theorem list_of {α : Type} {Q : Nat → α → Prop} (n : Nat) (h : ∀ i, i < n → ∃ a, Q i a) : ∃ l : List α, l.length = n ∧ ∀ i a, l[i]? = some a → Q i a := by
  induction n with
  | zero => exact ⟨[], rfl, fun i a ha => by simp at ha⟩
  | succ n ih =>
    obtain ⟨l, hl, hq⟩ := ih (fun i hi => h i (by omega))
    obtain ⟨a, ha⟩ := h n (by omega)
    refine ⟨l ++ [a], by simp [hl], fun i b hb => ?_⟩
    by_cases hi : i < l.length
    · rw [List.getElem?_append_left hi] at hb
      exact hq i b hb
    · rw [List.getElem?_append_right (by omega)] at hb
      have hlt := (List.getElem?_eq_some_iff.1 hb).1
      simp only [List.length_cons, List.length_nil] at hlt
      have hi2 : i = n := by omega
      rw [show i - l.length = 0 by omega] at hb
      simp at hb
      rw [hi2, ← hb]
      exact ha

set_option maxHeartbeats 4000000 in
set_option maxRecDepth 100000 in
theorem open_events {H : Type} {enc : TypeId × Value → H} {W : World} {fuel : Nat} {c : Value} {y : DataW H × List MemPlace} (h : DataW.trod enc Tryz.prog W 0 (fun _ => true) true fuel 22 [c] = some y) (hlt : ∀ x ∈ y.2, x.block < W.heap.size)
    (hr : (DataW.weights Tryz.prog 22 y.1).all (· ≤ reachBytes) = true) : ∃ (ao : Option Addr) (cap : Nat) (ts : List (Ev × Value × Value)), c = .slice ao ts.length cap ∧ (ao = none → cap = 0) ∧ ts.length ≤ cap ∧ ts.length ≤ 1000000000000 ∧ Seg W.heap.size W ao ts := by
  rcases Go.Deep.open_slice Tryz.underlying22 h with ⟨hcs, hx⟩ | ⟨a, len, cap, m, n, D, Pl, hcs, hb, hl, hm, hmm, rfl, hx⟩
  · simp at hcs
    exact ⟨none, 0, [], hcs, fun _ => rfl, Nat.le_refl _, by simp, Seg.nil _ _ _⟩
  · simp at hcs
    simp only [if_true] at hmm
    subst hmm; simp only [DataW.weights, Tryz.underlying22, List.all_cons, List.all_append, Bool.and_eq_true, decide_eq_true_eq] at hr
    obtain ⟨h1, h2, -⟩ := hr; rw [rw_bytes82] at h1
    simp only [List.length_map, List.length_range] at h1
    unfold reachBytes at h1
    rw [rw_cells82] at hx hlt
    by_cases h0 : len = 0
    · subst h0; exact ⟨some a, m, [], hcs, fun h => (by cases h), Nat.zero_le _, Nat.zero_le _, Seg.nil _ _ _⟩
    obtain ⟨b, o, sp⟩ := a; have hs : sp = none := by
      obtain ⟨cs', g1, _⟩ := hx 0 (by omega)
      obtain ⟨-, g3, g4⟩ := World.cells?_some g1
      have g5 := g4 0 (by omega)
      rw [List.getElem?_eq_getElem (by omega)] at g5
      have := World.cell?_spot g5
      simpa [Addr.add] using this
    subst hs; have each : ∀ i, i < len → ∃ t : Ev × Value × Value, (∀ q u, (evCells t.1 t.2.1 t.2.2).toList[q]? = some u → W.cell? ⟨b, o + (i * 13 + q), none⟩ = some u) ∧ RefS W.heap.size W t := by
      intro i hi; obtain ⟨cs', g1, g2⟩ := hx i (by omega)
      obtain ⟨-, g3, g4⟩ := World.cells?_some g1
      obtain ⟨e, pa, pb, ca, cb, hcs', hE, hia, hib⟩ := open_event_cells (d := D i) (p := Pl i) g3 g2 (fun x hx => hlt x (List.mem_append.2 (.inr (List.mem_flatMap.2 ⟨i, List.mem_range.2 (by omega), hx⟩)))) (weightsAll_mem (List.mem_map.2 ⟨i, List.mem_range.2 hi, rfl⟩) h2)
      refine ⟨(e, .slice pa e.days.ex.length ca, .slice pb e.days.xt.length cb), fun q u hq => ?_, hE, ⟨pa, ca, rfl, hia⟩, ⟨pb, cb, rfl, hib⟩⟩
      rw [← hcs'] at hq
      have hq13 : q < 13 := by rw [← g3]; exact (List.getElem?_eq_some_iff.1 hq).1
      have g5 := g4 q hq13; rw [hq] at g5
      have e1 : ((⟨b, o, none⟩ : Addr).add (i * 13)).add q = ⟨b, o + (i * 13 + q), none⟩ := by rw [Addr.add_lit, Addr.add_lit, Nat.add_assoc]
      rw [e1] at g5
      exact g5
    obtain ⟨ts, hts, hq⟩ := list_of len each
    refine ⟨some ⟨b, o, none⟩, m, ts, by rw [hts]; exact hcs, fun h => (by cases h), by omega, by omega, ?_, fun t ht => ?_⟩
    · right
      refine ⟨b, o, rfl, ?_, fun j u hj => ?_⟩
      · exact hlt (.cell b o) (List.mem_append.2 (.inl (MemPlace.mem_row.2 ⟨0, by omega, by simp⟩)))
      · have hjl : j < ts.length * 13 := by rw [← tCells_len]; exact (List.getElem?_eq_some_iff.1 hj).1
        obtain ⟨t, ht⟩ : ∃ t, ts[j / 13]? = some t := ⟨_, List.getElem?_eq_getElem (by omega)⟩
        have e1 : j = j / 13 * 13 + j % 13 := by omega
        rw [e1, tCells_get ts (j / 13) (j % 13) t ht (by omega)] at hj
        have := (hq _ t ht).1 _ u hj
        rw [← e1] at this
        exact this
    · obtain ⟨i, hi⟩ := List.mem_iff_getElem?.1 ht
      exact (hq i t hi).2
end Go.Proofs.YtageielcdebjlaaGreatDoor
namespace Go.Proofs.YtageielcdebjlaaGreatDoor.OpenF
open Go Go.ChangeShapes Go.WideShapes Go.ChangeAt Go.RowKit Go.Proofs.YtageielcdebjlaaGreatDoor
open Go.ChangeMaps (open_string shut_string)

theorem rw_cells22 : Tryz.prog.cellsOf 22 = 1 := by kernel_rfl
theorem rw_cells26 : Tryz.prog.cellsOf 26 = 3 := by kernel_rfl
theorem array3 {α : Type} {cs : Array α} (h : cs.size = 3) : ∃ c0 c1 c2, cs = #[c0, c1, c2] := by
  obtain ⟨l⟩ := cs; match l, h with
  | [c0, c1, c2], _ => exact ⟨c0, c1, c2, rfl⟩
theorem list3 {α : Type} {l : List α} (h : l.length = 3) : ∃ c0 c1 c2, l = [c0, c1, c2] := by
  match l, h with
  | [c0, c1, c2], _ => exact ⟨c0, c1, c2, rfl⟩

set_option maxRecDepth 100000 in
theorem open_feed {H : Type} {enc : TypeId × Value → H} {W : World} {base : Nat} {v : Value} {d : DataW H} {p : List MemPlace} (hv : Value.okWide Tryz.prog W .any base 26 v) (h : DataW.Trod enc Tryz.prog W 0 (fun _ => true) true 26 v d p)
    (hlt : ∀ x ∈ p, x.block < W.heap.size) (hr : (DataW.weights Tryz.prog 26 d).all (· ≤ reachBytes) = true) :
    ∃ (fn : ByteArray) (fv : Int) (ao : Option Addr) (cap : Nat) (ts : List (Ev × Value × Value)), v = .agg #[.string fn, .int .i64 fv, .slice ao ts.length cap] ∧ ts.length ≤ 1000000000000 ∧ Seg W.heap.size W ao ts := by
  obtain ⟨cs, rfl, hsz⟩ := okWide_struct Tryz.underlying26 hv
  obtain ⟨c0, c1, c2, rfl⟩ := array3 (hsz.trans rw_cells26)
  obtain ⟨fuel, hf⟩ := h; obtain ⟨xs, n, rfl, hx, -, hlen, hfs⟩ := DataW.trod_struct Tryz.underlying26 hf
  obtain ⟨y0, y1, y2, rfl⟩ := list3 hlen
  simp only [Prod.mk.injEq] at hx
  obtain ⟨rfl, rfl⟩ := hx; have f0 : DataW.trod enc Tryz.prog W 0 (fun _ => true) true n 9 [c0] = some y0 := by simpa [Value.cells, rw_cells9] using hfs 0 _ rfl
  have f1 : DataW.trod enc Tryz.prog W 0 (fun _ => true) true n 3 [c1] = some y1 := by simpa [Value.cells, rw_cells9, rw_cells3] using hfs 1 _ rfl
  have f2 : DataW.trod enc Tryz.prog W 0 (fun _ => true) true n 22 [c2] = some y2 := by simpa [Value.cells, rw_cells22, rw_cells3, rw_cells9] using hfs 2 _ rfl
  clear hfs hf hlen; obtain ⟨s0, e0, g0, w0⟩ := DataW.trod_string Tryz.underlying9 f0
  obtain ⟨n1, e1, g1, -⟩ := DataW.trod_int Tryz.underlying3 f1
  simp only [List.cons.injEq, and_true] at e0 e1
  subst e0 e1
  subst g0 g1
  simp only [DataW.weights, DataW.weightsEach, Tryz.underlying26, List.map_cons, List.map_nil, List.all_append, List.all_cons, List.all_nil, Bool.and_true, Bool.and_eq_true, List.nil_append, List.append_nil] at hr
  obtain ⟨ao, cap, ts, rfl, h1, h2, h3, h4⟩ := open_events f2 (fun x hx => hlt x (by simp [hx])) hr.2
  exact ⟨s0, n1, ao, cap, ts, rfl, h3, h4⟩

end Go.Proofs.YtageielcdebjlaaGreatDoor.OpenF
