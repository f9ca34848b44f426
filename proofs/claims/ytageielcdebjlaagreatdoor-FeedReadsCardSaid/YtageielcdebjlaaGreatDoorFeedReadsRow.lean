/- FeedReads: the row and the tied card. -/
import Derived.Test.YtageielcdebjlaaGreatDoorPk29
import Derived.Test.YtageielcdebjlaaGreatDoorCards
import Derived.Test.YtageielcdebjlaaGreatDoorTie
import Derived.WalkKit
import Derived.ProofKit
import Derived.OpenShut
import Derived.Deep.DeepHandedRow
import Derived.Lay
import Derived.Shelf.Vars
set_option maxRecDepth 100000
namespace Go.Proofs.YtageielcdebjlaaGreatDoor.FeedReads
open Go Go.ChangeShapes Go.WideShapes Go.ChangeAt Go.RowKit Go.Proofs.YtageielcdebjlaaGreatDoor
open Go.ChangeMaps (open_string shut_string)
theorem own : ownKnob Tryz.prog.godebug = none := by kernel_rfl
theorem laidOut : laidOutB Tryz.prog = true := by kernel_rfl
theorem cells3 : Tryz.prog.cellsOf 3 = 1 := by kernel_rfl
theorem tabs {W : World} (h : laidMetH Tryz.prog Rows.feedReadsRow.laid W) : Lens W /\ Errs W /\ Pow W /\ 6 < W.heap.size := by
 rw [MakeChecks.laidMetH_plain _ _ _ (by kernel_rfl)] at h; exact ⟨lens_laid h (i := 3) rfl (by kernel_rfl) (by kernel_rfl), ⟨err_laid h (i := 6) (t := 144) rfl (by kernel_rfl) (by kernel_rfl) (by kernel_rfl), err_laid h (i := 5) (t := 144) rfl (by kernel_rfl) (by kernel_rfl) (by kernel_rfl)⟩, pow_laid h (i := 2) rfl (by kernel_rfl) (by kernel_rfl)⟩
section
variable {H : Type} {enc : TypeId × Value -> H} {P : Program} {w : World} {base : Nat} {spare : Nat -> Bool} {held : Bool}
theorem trodAll_five {t t1 t2 t3 t4 : TypeId} {args : Array Value} {ds : List (DataW H)} {ps : List MemPlace} (h : DataW.TrodAll enc P w base spare held [t, t1, t2, t3, t4] args.toList ds ps) :
  ∃ v v1 v2 v3 v4 d d1 d2 d3 d4 p p1 p2 p3 p4, args = #[v, v1, v2, v3, v4] /\ ds = [d, d1, d2, d3, d4] /\ ps = p ++ p1 ++ p2 ++ p3 ++ p4 /\ DataW.Trod enc P w base spare held t v d p /\ DataW.Trod enc P w base spare held t1 v1 d1 p1 /\ DataW.Trod enc P w base spare held t2 v2 d2 p2 /\ DataW.Trod enc P w base spare held t3 v3 d3 p3 /\ DataW.Trod enc P w base spare held t4 v4 d4 p4 := by
 obtain ⟨v, vs, d, ds0, p, q, hargs, rfl, rfl, hd, hrest⟩ := trodAll_cons h; obtain ⟨v1, vs1, d1, ds1, p1, q1, rfl, rfl, rfl, hd1, hrest1⟩ := trodAll_cons hrest; obtain ⟨v2, vs2, d2, ds2, p2, q2, rfl, rfl, rfl, hd2, hrest2⟩ := trodAll_cons hrest1; obtain ⟨v3, vs3, d3, ds3, p3, q3, rfl, rfl, rfl, hd3, hrest3⟩ := trodAll_cons hrest2; obtain ⟨v4, vs4, d4, ds4, p4, q4, rfl, rfl, rfl, hd4, hrest4⟩ := trodAll_cons hrest3; obtain ⟨rfl, rfl, rfl⟩ := trodAll_nil hrest4; exact ⟨v, v1, v2, v3, v4, d, d1, d2, d3, d4, p, p1, p2, p3, p4, by cases args; simp_all, rfl, by simp, hd, hd1, hd2, hd3, hd4⟩
theorem trodAll_mk5 {t t1 t2 t3 t4 : TypeId} {v v1 v2 v3 v4 : Value} {d d1 d2 d3 d4 : DataW H} {p p1 p2 p3 p4 : List MemPlace} (h : DataW.Trod enc P w base spare held t v d p) (h1 : DataW.Trod enc P w base spare held t1 v1 d1 p1)
  (h2 : DataW.Trod enc P w base spare held t2 v2 d2 p2) (h3 : DataW.Trod enc P w base spare held t3 v3 d3 p3) (h4 : DataW.Trod enc P w base spare held t4 v4 d4 p4) : DataW.TrodAll enc P w base spare held [t, t1, t2, t3, t4] [v, v1, v2, v3, v4] [d, d1, d2, d3, d4] (p ++ (p1 ++ (p2 ++ (p3 ++ p4)))) :=
 ⟨p, p1 ++ (p2 ++ (p3 ++ p4)), h, ⟨p1, p2 ++ (p3 ++ p4), h1, trodAll_mk3 h2 h3 h4, rfl⟩, rfl⟩
end
theorem contract (H : Type) (enc : TypeId × Value -> H) (W : World) (base : Nat) (args : Array Value) (ds gs : List (DataW H)) (before : List MemPlace)
  (hval : ∀ (j : Nat) t v, Tryz.f9.params[j]? = some t -> args[j]? = some v -> Value.okWide Tryz.prog W .any base t v)
  (hW : DataW.Whole enc Tryz.prog Tryz.f9.params.toList Rows.feedReadsSpec.vars false W args.toList ds gs before)
  (hlaid : laidMetH Tryz.prog Rows.feedReadsRow.laid W) (hsh : W.ShapedOpen Tryz.prog) :
  Calls Tryz.prog 9 args W fun e W' => ∃ v, e = .returned v /\ Rows.feedReadsSpec.post enc Tryz.prog Tryz.f9 false true false false W args v W' := by
 have hW' := hW; obtain ⟨p, q, hA0, hV, rfl, hfz, hnd⟩ := hW; have hA : DataW.TrodAll enc Tryz.prog W 0 (fun _ => true) true Tryz.f9.params.toList args.toList ds p := hA0; rw [Tryz.params9] at hA hval; obtain ⟨v0, v1, v2, v3, v4, d0, d1, d2, d3, d4, p0, p1, p2, p3, p4, rfl, rfl, rfl, h0, h1, h2, h3, h4⟩ := trodAll_five hA; obtain ⟨rfl, rfl⟩ := trodVars_none hV; clear hA0; simp only [List.append_nil, List.append_assoc] at hW'; obtain ⟨raw, rfl, rfl, rfl, ws⟩ := open_string Tryz.underlying9 (hval 0 9 v0 rfl rfl) h0; obtain ⟨at_, rfl, rfl, rfl, wa⟩ := open_int Tryz.underlying3 (hval 2 3 v2 rfl rfl) h2; obtain ⟨cb, rfl, rfl, rfl, wc⟩ := open_int Tryz.underlying5 (hval 3 5 v3 rfl rfl) h3; obtain ⟨line, rfl, rfl, rfl, wl⟩ := open_string Tryz.underlying9 (hval 4 9 v4 rfl rfl) h4; have hlt : ∀ x ∈ p1, x.block < W.heap.size := fun x hx => by simpa using hW'.lt x (by simp [hx])
 obtain ⟨ao, len, cap, rfl⟩ := okWide_slice Tryz.underlying27 (hval 1 27 v1 rfl rfl); have h1k := h1; obtain ⟨m, hm⟩ : ∃ m, W.cell? ⟨0, 0, none⟩ = some (.int .i64 m) := Go.Proofs.cell_of_shapedOpen_int (zero := #[.int .i64 0]) (t := 3) hsh (of_decide_eq_true (by kernel_rfl)) (by kernel_rfl) rfl (by kernel_rfl) (by kernel_rfl) Tryz.underlying3; obtain ⟨hL, hE, hP, h6⟩ := tabs hlaid; obtain ⟨cu, hcu⟩ : ∃ cu : UInt8, cb = (cu.toNat : Int) := by
  have hb : 0 <= cb /\ cb <= 255 := by simpa [Lit.wf, IntKind.min, IntKind.max, IntKind.signed, IntKind.bits] using wc
  exact ⟨UInt8.ofNat cb.toNat, by rw [UInt8.toNat_ofNat']; omega⟩
 have hn : Nums W ao len := by
  obtain ⟨fuel, hf⟩ := h1; rcases open_ints Tryz.underlying27 Tryz.underlying3 cells3 hf with ⟨hcs, hx⟩ | ⟨a, len', cap', zs, hcs, _, hl, hm, hz, hx, hcell, hwz⟩
  ·simp [Value.cells] at hcs; obtain ⟨rfl, rfl, rfl⟩ := hcs; intro i hi; omega
  ·simp [Value.cells] at hcs; obtain ⟨rfl, rfl, rfl⟩ := hcs; simp only [if_true] at hz; simp only [Prod.mk.injEq] at hx; intro i hi; have hb := hwz (zs.getD i 0) (by
    rw [List.getD_eq_getElem?_getD, List.getElem?_eq_getElem (by omega)]; simp)
   refine ⟨a, zs.getD i 0, rfl, ?_, hcell i (by omega), ?_⟩
   ·exact hlt (.cell a.block a.off) (by rw [hx.2]; exact MemPlace.mem_row.2 ⟨0, by omega, by simp⟩)
   ·simpa [Lit.wf, IntKind.min, IntKind.max, IntKind.signed, IntKind.bits] using hb
 subst hcu; refine (law9 raw ao len cap at_ cu line W m hn hm hL hE hP h6).mono fun e W' ⟨he, hb⟩ => ?_
 subst he; exact ⟨_, rfl, _, _, _, [], [] ++ (p1 ++ ([] ++ ([] ++ []))), [], hW', trodAll_mk1 (shut_bool Tryz.underlying4 _), trodAll_mk5 (shut_string Tryz.underlying9 ws) (Below.trod laidOut (by kernel_rfl) (of_decide_eq_true (by kernel_rfl)) h1k hb hlt) (shut_int Tryz.underlying3 wa) (shut_int Tryz.underlying5 wc) (shut_string Tryz.underlying9 wl), rfl, hb.frame _, fun h => by cases h⟩
noncomputable def laidWorld (os : Os) : World := World.laidAll Tryz.prog os Rows.feedReadsRow.laid
def args0 : Array Value := #[.string ⟨#[]⟩, .slice none 0 0, .int .i64 0, .int .u8 0, .string ⟨#[]⟩]
theorem laid_met (os : Os) : laidMet Tryz.prog Rows.feedReadsRow.laid ((laidWorld os).forCall (fun _ _ => 0) ⟨#[], args0, []⟩).memory :=
 laidMet_laidAll args0 (by kernel_rfl) (by kernel_rfl)
theorem reads (os : Os) {H : Type} (enc : TypeId × Value -> H) : ∃ places, DataW.whole enc Tryz.prog ((laidWorld os).forCall (fun _ _ => 0) ⟨#[], args0, []⟩).memory Tryz.f9.params.toList Rows.feedReadsSpec.vars false args0.toList 8 = some ([.lit (.string []), .nil, .lit (.int .i64 0), .lit (.int .u8 0), .lit (.string [])], [], places) :=
 ⟨[], by kernel_rfl⟩
theorem lifted (os : Os) (started : os.Started) (H : Type) (enc : TypeId × Value -> H) (F : Stop.Interp) :
  ReturnsInHanded {} Tryz.checked os 9 .any ((OpenSpec.ofChange Rows.feedReadsSpec).preRow enc Tryz.prog Tryz.f9 Rows.feedReadsRow.domain false Rows.feedReadsRow.laid) (((OpenSpec.ofChange Rows.feedReadsSpec).at F).post enc Tryz.prog Tryz.f9 false true false false) := by
 obtain ⟨places, hx⟩ := reads os enc; refine returnsInHanded_of_row (C := Tryz.checked) (s := OpenSpec.ofChange Rows.feedReadsSpec) own started (by kernel_rfl) Tryz.func9
  (witness_row_at (enc := enc) (C := Tryz.checked) false (laidWorld os) args0 (World.laidAll_os _ _ _) (by kernel_rfl) (by kernel_rfl) (by kernel_rfl)
   (OpenSpec.preRow_of_cond 8 hx (by kernel_rfl) (fun k hk => by cases hk) (by kernel_rfl) (laid_met os))) ?_
 intro W base args ds gs before hval hW _ _ _ hlaid hsh _; exact contract H enc W base args ds gs before hval hW hlaid hsh
end Go.Proofs.YtageielcdebjlaaGreatDoor.FeedReads
