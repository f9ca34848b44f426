/- What a row's condition says of the laid tables: the lengths of months and the powers of ten. A session that comes in as data: what its value is. -/
import Derived.Test.YtageielcdebjlaaGreatDoorPk16
import Derived.Test.YtageielcdebjlaaGreatDoorPk15
import Derived.Lib.LaidTab
import Derived.MakeChecks
import Derived.Test.YtageielcdebjlaaGreatDoorPk20
import Derived.ProofKit
import Derived.OpenShut
import Derived.Deep.DeepHandedRow
namespace Go.Proofs.YtageielcdebjlaaGreatDoor
open Go.RowKit

theorem vars_at {P : Program} {w : World} : ∀ {l : List (String × DataW Unit)} {ps : List MemPlace}, DataW.LaidVars P w l ps → ∀ {i : Nat} {x : String × DataW Unit}, l[i]? = some x →
    ∃ g t cs fuel p, P.globalNamed x.1 = some g ∧ (P.globals[g]?).map (·.type) = some t ∧ w.var? P x.1 = some cs ∧ DataW.trod (fun _ => ()) P w 0 (fun _ => true) false fuel t cs.toList = some (x.2, p)
  | [], _, _, i, x, hx => by simp at hx
  | (n, d) :: r, ps, h, i, x, hx => by
    obtain ⟨g, t, cs, fuel, p, q, h1, h2, h3, h4, hr, _⟩ := h; cases i with
    | zero =>
      simp only [List.getElem?_cons_zero, Option.some.injEq] at hx
      subst hx; exact ⟨g, t, cs, fuel, p, h1, h2, h3, h4⟩
    | succ i => exact vars_at hr (by simpa using hx)
theorem laid_tab {W : World} {l : List (String × DataW Unit)} (h : laidMet Tryz.prog l W) {i g n : Nat} {t e : TypeId} {k : IntKind} {zs : List Int} {x : String × DataW Unit} (hx : l[i]? = some x) (hd : x.2 = Lib.tabData k zs) (hg : Tryz.prog.globalNamed x.1 = some g) (hty : (Tryz.prog.globals[g]?).map (·.type) = some t)
    (ht : Tryz.prog.underlying t = some (.array n e)) (he : Tryz.prog.underlying e = some (.int k)) (hce : Tryz.prog.cellsOf e = 1) (hct : Tryz.prog.cellsOf t = n) : ∃ u fr, W.heap[g]? = some (.cells (zs.map fun z => Value.int k z).toArray u fr) := by
  obtain ⟨ps, hl, _⟩ := h; obtain ⟨g', t', cs, fuel, p, h1, h2, h3, h4⟩ := vars_at hl hx
  obtain rfl := Option.some.inj (hg.symm.trans h1)
  obtain rfl := Option.some.inj (hty.symm.trans h2)
  rw [hd] at h4
  have hc := Lib.cells_of_tab ht he hce hct h4; unfold World.var? at h3
  rw [h1] at h3
  simp only [Option.bind_some] at h3
  split at h3
  · rename_i cs' u fr heq
    simp only [Option.some.injEq] at h3
    subst h3; exact ⟨u, fr, by rw [heq, ← hc]⟩
  · cases h3
theorem pow_laid {W : World} {l : List (String × DataW Unit)} (h : laidMet Tryz.prog l W) {i : Nat} {x : String × DataW Unit} (hx : l[i]? = some x) (hd : x.2 = Lib.tabData .u64 Lib.pow10Tab) (hg : Tryz.prog.globalNamed x.1 = some 6) : Pow W ∧ 6 < W.heap.size := by
  obtain ⟨u, fr, hh⟩ := laid_tab (g := 6) (t := 330) (e := 245) (n := 20) h hx hd hg (by kernel_rfl) (by kernel_rfl) (by kernel_rfl) (by kernel_rfl) (by kernel_rfl)
  exact ⟨⟨u, fr, hh⟩, (Array.getElem?_eq_some_iff.1 hh).1⟩
end Go.Proofs.YtageielcdebjlaaGreatDoor
namespace Go.Proofs.YtageielcdebjlaaGreatDoor
open Go Go.ChangeShapes Go.WideShapes Go.ChangeAt Go.RowKit

theorem se_cells3 : Tryz.prog.cellsOf 3 = 1 := by kernel_rfl
theorem se_cells9 : Tryz.prog.cellsOf 9 = 1 := by kernel_rfl
theorem se_cells105 : Tryz.prog.cellsOf 105 = 4 := by kernel_rfl
theorem se_cells107 : Tryz.prog.cellsOf 107 = 6 := by kernel_rfl
theorem array6 {α : Type} {cs : Array α} (h : cs.size = 6) : ∃ c0 c1 c2 c3 c4 c5, cs = #[c0, c1, c2, c3, c4, c5] := by
  obtain ⟨l⟩ := cs; match l, h with
  | [c0, c1, c2, c3, c4, c5], _ => exact ⟨c0, c1, c2, c3, c4, c5, rfl⟩
theorem list3 {α : Type} {l : List α} (h : l.length = 3) : ∃ c0 c1 c2, l = [c0, c1, c2] := by
  match l, h with
  | [c0, c1, c2], _ => exact ⟨c0, c1, c2, rfl⟩
theorem list4 {α : Type} {l : List α} (h : l.length = 4) : ∃ c0 c1 c2 c3, l = [c0, c1, c2, c3] := by
  match l, h with
  | [c0, c1, c2, c3], _ => exact ⟨c0, c1, c2, c3, rfl⟩
set_option maxHeartbeats 4000000 in
set_option maxRecDepth 100000 in
theorem open_ses {H : Type} {enc : TypeId × Value → H} {W : World} {base : Nat} {v : Value} {d : DataW H} {p : List MemPlace} (hv : Value.okWide Tryz.prog W .any base 107 v) (h : DataW.Trod enc Tryz.prog W 0 (fun _ => true) true 107 v d p) :
    ∃ s : Ses, v = sesVal s := by
  obtain ⟨cs, rfl, hsz⟩ := okWide_struct Tryz.underlying107 hv
  obtain ⟨c0, c1, c2, c3, c4, c5, rfl⟩ := array6 (hsz.trans se_cells107)
  obtain ⟨fuel, hf⟩ := h; obtain ⟨xs, n, rfl, hx, -, hlen, hfs⟩ := DataW.trod_struct Tryz.underlying107 hf
  obtain ⟨y0, y1, y2, rfl⟩ := list3 hlen
  have f0 : DataW.trod enc Tryz.prog W 0 (fun _ => true) true n 9 [c0] = some y0 := by simpa [Value.cells, se_cells9] using hfs 0 _ rfl
  have f1 : DataW.trod enc Tryz.prog W 0 (fun _ => true) true n 105 [c1, c2, c3, c4] = some y1 := by simpa [Value.cells, se_cells105] using hfs 1 _ rfl
  have f2 : DataW.trod enc Tryz.prog W 0 (fun _ => true) true n 9 [c5] = some y2 := by simpa [Value.cells, se_cells9] using hfs 2 _ rfl
  clear hfs hf hlen; obtain ⟨s0, e0, g0, w0⟩ := DataW.trod_string Tryz.underlying9 f0
  obtain ⟨s2, e2, g2, w2⟩ := DataW.trod_string Tryz.underlying9 f2
  obtain ⟨zs, k, rfl, hz, -, hlen, hfs⟩ := DataW.trod_struct Tryz.underlying105 f1
  obtain ⟨z0, z1, z2, z3, rfl⟩ := list4 hlen
  have k0 : DataW.trod enc Tryz.prog W 0 (fun _ => true) true k 3 [c1] = some z0 := by simpa [se_cells3] using hfs 0 _ rfl
  have k1 : DataW.trod enc Tryz.prog W 0 (fun _ => true) true k 3 [c2] = some z1 := by simpa [se_cells3] using hfs 1 _ rfl
  have k2 : DataW.trod enc Tryz.prog W 0 (fun _ => true) true k 3 [c3] = some z2 := by simpa [se_cells3] using hfs 2 _ rfl
  have k3 : DataW.trod enc Tryz.prog W 0 (fun _ => true) true k 3 [c4] = some z3 := by simpa [se_cells3] using hfs 3 _ rfl
  clear hfs hlen f1; obtain ⟨m0, d0, q0, -⟩ := DataW.trod_int Tryz.underlying3 k0
  obtain ⟨m1, d1, q1, -⟩ := DataW.trod_int Tryz.underlying3 k1
  obtain ⟨m2, d2, q2, -⟩ := DataW.trod_int Tryz.underlying3 k2
  obtain ⟨m3, d3, q3, -⟩ := DataW.trod_int Tryz.underlying3 k3
  simp only [List.cons.injEq, and_true] at e0 e2 d0 d1 d2 d3
  subst e0 e2 d0 d1 d2 d3
  exact ⟨⟨s0, ⟨m0, m1, m2, m3⟩, s2⟩, rfl⟩
end Go.Proofs.YtageielcdebjlaaGreatDoor
