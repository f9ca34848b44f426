/- SubscriberMerges: the row and the tied card. -/
import Derived.Test.YtageielcdebjlaaGreatDoorLawM
import Derived.Test.YtageielcdebjlaaGreatDoorPk30
import Derived.Test.YtageielcdebjlaaGreatDoorCards
import Derived.Test.YtageielcdebjlaaGreatDoorTie
import Derived.WalkKit
import Derived.ProofKit
import Derived.OpenShut
import Derived.Deep.DeepHandedRow
import Derived.Lay
import Derived.Shelf.Vars
namespace Go.Proofs.YtageielcdebjlaaGreatDoor.SubscriberMerges
open Go Go.ChangeShapes Go.WideShapes Go.ChangeAt Go.RowKit Go.Proofs.YtageielcdebjlaaGreatDoor
open Go.ChangeMaps (open_string shut_string)

theorem own : ownKnob Tryz.prog.godebug = none := by kernel_rfl
theorem laidOut : laidOutB Tryz.prog = true := by kernel_rfl
theorem rw_cells22 : Tryz.prog.cellsOf 22 = 1 := by kernel_rfl
theorem rw_cells24 : Tryz.prog.cellsOf 24 = 3 := by kernel_rfl
theorem rw_cells26 : Tryz.prog.cellsOf 26 = 3 := by kernel_rfl
theorem array3 {α : Type} {cs : Array α} (h : cs.size = 3) : ∃ c0 c1 c2, cs = #[c0, c1, c2] := by
  obtain ⟨l⟩ := cs
  match l, h with
  | [c0, c1, c2], _ => exact ⟨c0, c1, c2, rfl⟩
theorem list3 {α : Type} {l : List α} (h : l.length = 3) : ∃ c0 c1 c2, l = [c0, c1, c2] := by
  match l, h with
  | [c0, c1, c2], _ => exact ⟨c0, c1, c2, rfl⟩

set_option maxRecDepth 100000 in
theorem open_reader {H : Type} {enc : TypeId × Value → H} {W : World} {base : Nat} {v : Value} {d : DataW H} {p : List MemPlace} (hv : Value.okWide Tryz.prog W .any base 24 v) (h : DataW.Trod enc Tryz.prog W 0 (fun _ => true) true 24 v d p)
    (hlt : ∀ x ∈ p, x.block < W.heap.size) (hr : (DataW.weights Tryz.prog 24 d).all (· ≤ reachBytes) = true) :
    ∃ (rv tag : Int) (ao : Option Addr) (cap : Nat) (ts : List (Ev × Value × Value)), v = .agg #[.int .i64 rv, .int .i64 tag, .slice ao ts.length cap] ∧ (ao = none → cap = 0) ∧ ts.length ≤ cap ∧ ts.length ≤ 1000000000000 ∧ Seg W.heap.size W ao ts := by
  obtain ⟨cs, rfl, hsz⟩ := okWide_struct Tryz.underlying24 hv
  obtain ⟨c0, c1, c2, rfl⟩ := array3 (hsz.trans rw_cells24)
  obtain ⟨fuel, hf⟩ := h
  obtain ⟨xs, n, rfl, hx, -, hlen, hfs⟩ := DataW.trod_struct Tryz.underlying24 hf
  obtain ⟨y0, y1, y2, rfl⟩ := list3 hlen
  simp only [Prod.mk.injEq] at hx
  obtain ⟨rfl, rfl⟩ := hx
  have f0 : DataW.trod enc Tryz.prog W 0 (fun _ => true) true n 3 [c0] = some y0 := by simpa [Value.cells, rw_cells3] using hfs 0 _ rfl
  have f1 : DataW.trod enc Tryz.prog W 0 (fun _ => true) true n 3 [c1] = some y1 := by simpa [Value.cells, rw_cells3] using hfs 1 _ rfl
  have f2 : DataW.trod enc Tryz.prog W 0 (fun _ => true) true n 22 [c2] = some y2 := by simpa [Value.cells, rw_cells22, rw_cells3] using hfs 2 _ rfl
  clear hfs hf hlen
  obtain ⟨n0, e0, g0, -⟩ := DataW.trod_int Tryz.underlying3 f0
  obtain ⟨n1, e1, g1, -⟩ := DataW.trod_int Tryz.underlying3 f1
  simp only [List.cons.injEq, and_true] at e0 e1
  subst e0 e1
  subst g0 g1
  simp only [DataW.weights, DataW.weightsEach, Tryz.underlying24, List.map_cons, List.map_nil, List.nil_append, List.append_nil] at hr
  obtain ⟨ao, cap, ts, rfl, h1, h2, h3, h4⟩ := open_events f2 (fun x hx => hlt x (by simp [hx])) hr
  exact ⟨n0, n1, ao, cap, ts, rfl, h1, h2, h3, h4⟩

set_option maxRecDepth 100000 in
theorem open_feed {H : Type} {enc : TypeId × Value → H} {W : World} {base : Nat} {v : Value} {d : DataW H} {p : List MemPlace} (hv : Value.okWide Tryz.prog W .any base 26 v) (h : DataW.Trod enc Tryz.prog W 0 (fun _ => true) true 26 v d p)
    (hlt : ∀ x ∈ p, x.block < W.heap.size) (hr : (DataW.weights Tryz.prog 26 d).all (· ≤ reachBytes) = true) :
    ∃ (fn : ByteArray) (fv : Int) (ao : Option Addr) (cap : Nat) (ts : List (Ev × Value × Value)), v = .agg #[.string fn, .int .i64 fv, .slice ao ts.length cap] ∧ ts.length ≤ 1000000000000 ∧ Seg W.heap.size W ao ts := by
  obtain ⟨cs, rfl, hsz⟩ := okWide_struct Tryz.underlying26 hv
  obtain ⟨c0, c1, c2, rfl⟩ := array3 (hsz.trans rw_cells26)
  obtain ⟨fuel, hf⟩ := h
  obtain ⟨xs, n, rfl, hx, -, hlen, hfs⟩ := DataW.trod_struct Tryz.underlying26 hf
  obtain ⟨y0, y1, y2, rfl⟩ := list3 hlen
  simp only [Prod.mk.injEq] at hx
  obtain ⟨rfl, rfl⟩ := hx
  have f0 : DataW.trod enc Tryz.prog W 0 (fun _ => true) true n 9 [c0] = some y0 := by simpa [Value.cells, rw_cells9] using hfs 0 _ rfl
  have f1 : DataW.trod enc Tryz.prog W 0 (fun _ => true) true n 3 [c1] = some y1 := by simpa [Value.cells, rw_cells9, rw_cells3] using hfs 1 _ rfl
  have f2 : DataW.trod enc Tryz.prog W 0 (fun _ => true) true n 22 [c2] = some y2 := by simpa [Value.cells, rw_cells22, rw_cells3, rw_cells9] using hfs 2 _ rfl
  clear hfs hf hlen
  obtain ⟨s0, e0, g0, w0⟩ := DataW.trod_string Tryz.underlying9 f0
  obtain ⟨n1, e1, g1, -⟩ := DataW.trod_int Tryz.underlying3 f1
  simp only [List.cons.injEq, and_true] at e0 e1
  subst e0 e1
  subst g0 g1
  simp only [DataW.weights, DataW.weightsEach, Tryz.underlying26, List.map_cons, List.map_nil, List.all_append, List.all_cons, List.all_nil, Bool.and_true, Bool.and_eq_true, List.nil_append, List.append_nil] at hr
  obtain ⟨ao, cap, ts, rfl, h1, h2, h3, h4⟩ := open_events f2 (fun x hx => hlt x (by simp [hx])) hr.2
  exact ⟨s0, n1, ao, cap, ts, rfl, h3, h4⟩

set_option maxRecDepth 100000 in
theorem contract (H : Type) (enc : TypeId × Value → H) (W : World) (base : Nat) (args : Array Value) (ds gs : List (DataW H)) (before : List MemPlace)
    (hval : ∀ (j : Nat) t v, Tryz.f3.params[j]? = some t → args[j]? = some v → Value.okWide Tryz.prog W .any base t v)
    (hW : DataW.Whole enc Tryz.prog Tryz.f3.params.toList Rows.subscriberMergesSpec.vars false W args.toList ds gs before) (hre : (DataW.weightsEach Tryz.prog (Tryz.f3.params.toList ++ (OpenSpec.ofChange Rows.subscriberMergesSpec).bare.plain.varTypes Tryz.prog) (ds ++ gs)).all (· ≤ reachBytes) = true) :
    Calls Tryz.prog 3 args W fun e W' => ∃ v, e = .returned v ∧ Rows.subscriberMergesSpec.post enc Tryz.prog Tryz.f3 false true false false W args v W' := by
  have hW' := hW
  obtain ⟨p, q, hA0, hV, rfl, hfz, hnd⟩ := hW
  have hA : DataW.TrodAll enc Tryz.prog W 0 (fun _ => true) true Tryz.f3.params.toList args.toList ds p := hA0
  rw [Tryz.params3] at hA hval
  obtain ⟨v0, v1, v2, d0, d1, d2, p0, p1, p2, rfl, rfl, rfl, h0, h1, h2⟩ := trodAll_three hA
  obtain ⟨rfl, rfl⟩ := trodVars_none hV
  clear hA0
  simp only [List.append_nil, List.append_assoc] at hW'
  have hlt0 : ∀ x ∈ p0, x.block < W.heap.size := fun x hx => by simpa using hW'.lt x (by simp [hx])
  have hlt1 : ∀ x ∈ p1, x.block < W.heap.size := fun x hx => by simpa using hW'.lt x (by simp [hx])
  have hlt : ∀ x ∈ p2, x.block < W.heap.size := fun x hx => by simpa using hW'.lt x (by simp [hx])
  rw [Tryz.params3] at hre
  simp only [List.cons_append, DataW.weightsEach, List.all_append, Bool.and_eq_true] at hre
  have h0k := h0
  have h1k := h1
  obtain ⟨rv, tag, ar, cr, rs, rfl, hrn, hrc, hrl, hR⟩ := open_reader (hval 0 24 v0 rfl rfl) h0 hlt0 hre.1
  obtain ⟨fn, fv, af, cf, fs, rfl, hfl, hF⟩ := open_feed (hval 1 26 v1 rfl rfl) h1 hlt1 hre.2.1
  obtain ⟨ao, len, cap, rfl⟩ := okWide_slice Tryz.underlying27 (hval 2 27 v2 rfl rfl)
  have h2k := h2
  have hn : Nums W ao len := by
    obtain ⟨fuel, hf⟩ := h2
    rcases open_ints Tryz.underlying27 Tryz.underlying3 rw_cells3 hf with ⟨hcs, hx⟩ | ⟨a, len', cap', zs, hcs, _, hl, hm, hz, hx, hcell, hwz⟩
    · simp [Value.cells] at hcs
      obtain ⟨rfl, rfl, rfl⟩ := hcs
      intro i hi; omega
    · simp [Value.cells] at hcs
      obtain ⟨rfl, rfl, rfl⟩ := hcs
      simp only [if_true] at hz
      simp only [Prod.mk.injEq] at hx
      intro i hi
      have hb := hwz (zs.getD i 0) (by
        rw [List.getD_eq_getElem?_getD, List.getElem?_eq_getElem (by omega)]
        simp)
      refine ⟨a, zs.getD i 0, rfl, ?_, hcell i (by omega), ?_⟩
      · exact hlt (.cell a.block a.off) (by rw [hx.2]; exact MemPlace.mem_row.2 ⟨0, by omega, by simp⟩)
      · simpa [Lit.wf, IntKind.min, IntKind.max, IntKind.signed, IntKind.bits] using hb
  refine (law3 rv tag ar cr rs fn fv af cf fs ao len cap W hR hF hrn hrc hrl hfl hn).mono fun e W' ⟨he, hb⟩ => ?_
  subst he
  exact ⟨_, rfl, _, _, _, [], p0 ++ (p1 ++ p2), [], hW', trodAll_mk1 (shut_bool Tryz.underlying4 _), trodAll_mk3 (Below.trod laidOut (by kernel_rfl) (of_decide_eq_true (by kernel_rfl)) h0k hb hlt0) (Below.trod laidOut (by kernel_rfl) (of_decide_eq_true (by kernel_rfl)) h1k hb hlt1) (Below.trod laidOut (by kernel_rfl) (of_decide_eq_true (by kernel_rfl)) h2k hb hlt), rfl, hb.frame _, fun h => by cases h⟩

/-- A WORLD FOR THE WITNESS: every listed variable laid. -/
noncomputable def laidWorld (os : Os) : World := World.laidAll Tryz.prog os Rows.subscriberMergesRow.laid
def args0 : Array Value := #[.agg #[.int .i64 0, .int .i64 0, .slice none 0 0], .agg #[.string ⟨#[]⟩, .int .i64 0, .slice none 0 0], .slice none 0 0]
set_option maxRecDepth 100000 in
theorem laid_met (os : Os) : laidMet Tryz.prog Rows.subscriberMergesRow.laid ((laidWorld os).forCall (fun _ _ => 0) ⟨#[], args0, []⟩).memory :=
  laidMet_laidAll args0 (by kernel_rfl) (by kernel_rfl)
set_option maxRecDepth 100000 in
theorem reads (os : Os) {H : Type} (enc : TypeId × Value → H) : ∃ places, DataW.whole enc Tryz.prog ((laidWorld os).forCall (fun _ _ => 0) ⟨#[], args0, []⟩).memory Tryz.f3.params.toList Rows.subscriberMergesSpec.vars false args0.toList 8 = some ([.agg [.lit (.int .i64 0), .lit (.int .i64 0), .nil], .agg [.lit (.string []), .lit (.int .i64 0), .nil], .nil], [], places) :=
  ⟨[], by kernel_rfl⟩

set_option maxRecDepth 100000 in
theorem lifted (os : Os) (started : os.Started) (H : Type) (enc : TypeId × Value → H) (F : Stop.Interp) :
    ReturnsInHanded {} Tryz.checked os 3 .any ((OpenSpec.ofChange Rows.subscriberMergesSpec).preRow enc Tryz.prog Tryz.f3 Rows.subscriberMergesRow.domain false Rows.subscriberMergesRow.laid) (((OpenSpec.ofChange Rows.subscriberMergesSpec).at F).post enc Tryz.prog Tryz.f3 false true false false) := by
  obtain ⟨places, hx⟩ := reads os enc
  refine returnsInHanded_of_row (C := Tryz.checked) (s := OpenSpec.ofChange Rows.subscriberMergesSpec) own started (by kernel_rfl) Tryz.func3
    (witness_row_at (enc := enc) (C := Tryz.checked) false (laidWorld os) args0 (World.laidAll_os _ _ _) (by kernel_rfl) (by kernel_rfl) (by kernel_rfl)
      (OpenSpec.preRow_of_cond 8 hx (by kernel_rfl) (fun k hk => by cases hk) (by kernel_rfl) (laid_met os))) ?_
  intro W base args ds gs before hval hW _ _ hre _ hsh _
  exact contract H enc W base args ds gs before hval hW hre

end Go.Proofs.YtageielcdebjlaaGreatDoor.SubscriberMerges
