/- FeedEvents: the row and the tied card. -/
import Derived.Test.YtageielcdebjlaaGreatDoorLaw12
import Derived.Test.YtageielcdebjlaaGreatDoorPk33
import Derived.Test.YtageielcdebjlaaGreatDoorCards
import Derived.Test.YtageielcdebjlaaGreatDoorTie
import Derived.WalkKit
import Derived.ProofKit
import Derived.OpenShut
import Derived.Deep.DeepHandedRow
import Derived.Lay
import Derived.Shelf.Vars
namespace Go.Proofs.YtageielcdebjlaaGreatDoor.FeedEvents
open Go Go.ChangeShapes Go.WideShapes Go.ChangeAt Go.RowKit Go.Proofs.YtageielcdebjlaaGreatDoor
open Go.ChangeMaps (open_string shut_string)

theorem own : ownKnob Tryz.prog.godebug = none := by kernel_rfl
theorem laidOut : laidOutB Tryz.prog = true := by kernel_rfl
theorem cells3 : Tryz.prog.cellsOf 3 = 1 := by kernel_rfl
set_option maxRecDepth 100000 in
theorem tabs {W : World} (h : laidMetH Tryz.prog Rows.feedEventsRow.laid W) : Pow W ∧ 6 < W.heap.size := by
  rw [MakeChecks.laidMetH_plain _ _ _ (by kernel_rfl)] at h
  exact pow_laid h (i := 2) rfl (by kernel_rfl) (by kernel_rfl)

set_option maxRecDepth 100000 in
theorem contract (H : Type) (enc : TypeId × Value → H) (W : World) (base : Nat) (args : Array Value) (ds gs : List (DataW H)) (before : List MemPlace)
    (hval : ∀ (j : Nat) t v, Tryz.f12.params[j]? = some t → args[j]? = some v → Value.okWide Tryz.prog W .any base t v)
    (hW : DataW.Whole enc Tryz.prog Tryz.f12.params.toList Rows.feedEventsSpec.vars false W args.toList ds gs before) (hre : (DataW.weightsEach Tryz.prog (Tryz.f12.params.toList ++ (OpenSpec.ofChange Rows.feedEventsSpec).bare.plain.varTypes Tryz.prog) (ds ++ gs)).all (· ≤ reachBytes) = true)
    (hlaid : laidMetH Tryz.prog Rows.feedEventsRow.laid W) (hsh : W.ShapedOpen Tryz.prog) :
    Calls Tryz.prog 12 args W fun e W' => ∃ v, e = .returned v ∧ Rows.feedEventsSpec.post enc Tryz.prog Tryz.f12 false true false false W args v W' := by
  have hW' := hW; obtain ⟨p, q, hA0, hV, rfl, hfz, hnd⟩ := hW; have hA : DataW.TrodAll enc Tryz.prog W 0 (fun _ => true) true Tryz.f12.params.toList args.toList ds p := hA0
  rw [Tryz.params12] at hA hval
  obtain ⟨v0, v1, v2, d0, d1, d2, p0, p1, p2, rfl, rfl, rfl, h0, h1, h2⟩ := trodAll_three hA
  obtain ⟨rfl, rfl⟩ := trodVars_none hV
  clear hA0; simp only [List.append_nil, List.append_assoc] at hW'
  have hlt0 : ∀ x ∈ p0, x.block < W.heap.size := fun x hx => by simpa using hW'.lt x (by simp [hx])
  have hlt1 : ∀ x ∈ p1, x.block < W.heap.size := fun x hx => by simpa using hW'.lt x (by simp [hx])
  have hlt : ∀ x ∈ p2, x.block < W.heap.size := fun x hx => by simpa using hW'.lt x (by simp [hx])
  have h0k := h0; obtain ⟨s, rfl⟩ := open_ses (hval 0 107 v0 rfl rfl) h0
  obtain ⟨q1, rfl⟩ := okWide_int Tryz.underlying3 (hval 1 3 v1 rfl rfl)
  have h1k := h1; obtain ⟨ao, len, cap, rfl⟩ := okWide_slice Tryz.underlying27 (hval 2 27 v2 rfl rfl)
  have h2k := h2; obtain ⟨m, hm⟩ : ∃ m, W.cell? ⟨0, 0, none⟩ = some (.int .i64 m) := Go.Proofs.cell_of_shapedOpen_int (zero := #[.int .i64 0]) (t := 3) hsh (of_decide_eq_true (by kernel_rfl)) (by kernel_rfl) rfl (by kernel_rfl) (by kernel_rfl) Tryz.underlying3
  obtain ⟨hP, h6⟩ := tabs hlaid
  have hn : Nums W ao len := by
    obtain ⟨fuel, hf⟩ := h2; rcases open_ints Tryz.underlying27 Tryz.underlying3 cells3 hf with ⟨hcs, hx⟩ | ⟨a, len', cap', zs, hcs, _, hl, hm, hz, hx, hcell, hwz⟩
    · simp [Value.cells] at hcs
      obtain ⟨rfl, rfl, rfl⟩ := hcs; intro i hi; omega
    · simp [Value.cells] at hcs
      obtain ⟨rfl, rfl, rfl⟩ := hcs; simp only [if_true] at hz
      simp only [Prod.mk.injEq] at hx
      intro i hi; have hb := hwz (zs.getD i 0) (by
        rw [List.getD_eq_getElem?_getD, List.getElem?_eq_getElem (by omega)]
        simp)
      refine ⟨a, zs.getD i 0, rfl, ?_, hcell i (by omega), ?_⟩
      · exact hlt (.cell a.block a.off) (by rw [hx.2]; exact MemPlace.mem_row.2 ⟨0, by omega, by simp⟩)
      · simpa [Lit.wf, IntKind.min, IntKind.max, IntKind.signed, IntKind.bits] using hb
  refine (law12 s q1 ao len cap W m hn hm hP h6).mono fun e W' ⟨he, hb⟩ => ?_
  subst he; exact ⟨_, rfl, _, _, _, [], p0 ++ (p1 ++ p2), [], hW', trodAll_mk1 (shut_bool Tryz.underlying4 _), trodAll_mk3 (Below.trod laidOut (by kernel_rfl) (of_decide_eq_true (by kernel_rfl)) h0k hb hlt0) (Below.trod laidOut (by kernel_rfl) (of_decide_eq_true (by kernel_rfl)) h1k hb hlt1) (Below.trod laidOut (by kernel_rfl) (of_decide_eq_true (by kernel_rfl)) h2k hb hlt), rfl, hb.frame _, fun h => by cases h⟩

/-- A WORLD FOR THE WITNESS: every listed variable laid. -/
noncomputable def laidWorld (os : Os) : World := World.laidAll Tryz.prog os Rows.feedEventsRow.laid
def args0 : Array Value := #[.agg #[.string ⟨#[]⟩, .int .i64 0, .int .i64 0, .int .i64 0, .int .i64 0, .string ⟨#[]⟩], .int .i64 0, .slice none 0 0]
set_option maxRecDepth 100000 in
theorem laid_met (os : Os) : laidMet Tryz.prog Rows.feedEventsRow.laid ((laidWorld os).forCall (fun _ _ => 0) ⟨#[], args0, []⟩).memory :=
  laidMet_laidAll args0 (by kernel_rfl) (by kernel_rfl)
set_option maxRecDepth 100000 in
theorem reads (os : Os) {H : Type} (enc : TypeId × Value → H) : ∃ places, DataW.whole enc Tryz.prog ((laidWorld os).forCall (fun _ _ => 0) ⟨#[], args0, []⟩).memory Tryz.f12.params.toList Rows.feedEventsSpec.vars false args0.toList 8 = some ([.agg [.lit (.string []), .agg [.lit (.int .i64 0), .lit (.int .i64 0), .lit (.int .i64 0), .lit (.int .i64 0)], .lit (.string [])], .lit (.int .i64 0), .nil], [], places) :=
  ⟨[], by kernel_rfl⟩

set_option maxRecDepth 100000 in
theorem lifted (os : Os) (started : os.Started) (H : Type) (enc : TypeId × Value → H) (F : Stop.Interp) :
    ReturnsInHanded {} Tryz.checked os 12 .any ((OpenSpec.ofChange Rows.feedEventsSpec).preRow enc Tryz.prog Tryz.f12 Rows.feedEventsRow.domain false Rows.feedEventsRow.laid) (((OpenSpec.ofChange Rows.feedEventsSpec).at F).post enc Tryz.prog Tryz.f12 false true false false) := by
  obtain ⟨places, hx⟩ := reads os enc
  refine returnsInHanded_of_row (C := Tryz.checked) (s := OpenSpec.ofChange Rows.feedEventsSpec) own started (by kernel_rfl) Tryz.func12
    (witness_row_at (enc := enc) (C := Tryz.checked) false (laidWorld os) args0 (World.laidAll_os _ _ _) (by kernel_rfl) (by kernel_rfl) (by kernel_rfl)
      (OpenSpec.preRow_of_cond 12 hx (by kernel_rfl) (fun k hk => by cases hk) (by kernel_rfl) (laid_met os))) ?_
  intro W base args ds gs before hval hW _ _ hre hlaid hsh _; exact contract H enc W base args ds gs before hval hW hre hlaid hsh

end Go.Proofs.YtageielcdebjlaaGreatDoor.FeedEvents
