/- What a row's condition says of the laid tables: the lengths of months and the powers of ten. -/
import Derived.Test.YtageielcdebjlaaGreatDoorPk6
import Derived.Test.YtageielcdebjlaaGreatDoorPk1
import Derived.Test.YtageielcdebjlaaGreatDoorPk2
import Derived.Lib.LaidTab
import Derived.MakeChecks
namespace Go.Proofs.YtageielcdebjlaaGreatDoor
open Go.RowKit
theorem vars_at {P : Program} {w : World} : ∀ {l : List (String × DataW Unit)} {ps : List MemPlace},DataW.LaidVars P w l ps -> ∀ {i : Nat} {x : String × DataW Unit},l[i]? = some x ->
  ∃ g t cs fuel p,P.globalNamed x.1 = some g /\ (P.globals[g]?).map (·.type) = some t /\ w.var? P x.1 = some cs /\ DataW.trod (fun _ => ()) P w 0 (fun _ => true) false fuel t cs.toList = some (x.2,p)
 | [],_,_,i,x,hx => by simp at hx
 | (n,d) :: r,ps,h,i,x,hx => by
  obtain ⟨g,t,cs,fuel,p,q,h1,h2,h3,h4,hr,_⟩:=h;cases i with
  | zero =>
   simp only [List.getElem?_cons_zero,Option.some.injEq] at hx;subst hx;exact ⟨g,t,cs,fuel,p,h1,h2,h3,h4⟩
  | succ i => exact vars_at hr (by simpa using hx)
theorem laid_tab {W : World} {l : List (String × DataW Unit)} (h : laidMet Tryz.prog l W) {i g n : Nat} {t e : TypeId} {k : IntKind} {zs : List Int} {x : String × DataW Unit} (hx : l[i]? = some x) (hd : x.2 = Lib.tabData k zs) (hg : Tryz.prog.globalNamed x.1 = some g) (hty : (Tryz.prog.globals[g]?).map (·.type) = some t)
  (ht : Tryz.prog.underlying t = some (.array n e)) (he : Tryz.prog.underlying e = some (.int k)) (hce : Tryz.prog.cellsOf e = 1) (hct : Tryz.prog.cellsOf t = n) : ∃ u fr,W.heap[g]? = some (.cells (zs.map fun z => Value.int k z).toArray u fr):=by
 obtain ⟨ps,hl,_⟩:=h;obtain ⟨g',t',cs,fuel,p,h1,h2,h3,h4⟩:=vars_at hl hx;obtain rfl:=Option.some.inj (hg.symm.trans h1);obtain rfl:=Option.some.inj (hty.symm.trans h2);rw [hd] at h4;have hc:=Lib.cells_of_tab ht he hce hct h4;unfold World.var? at h3;rw [h1] at h3;simp only [Option.bind_some] at h3;split at h3
 ·rename_i cs' u fr heq
  simp only [Option.some.injEq] at h3;subst h3;exact ⟨u,fr,by rw [heq,<- hc]⟩
 ·cases h3
theorem pow_laid {W : World} {l : List (String × DataW Unit)} (h : laidMet Tryz.prog l W) {i : Nat} {x : String × DataW Unit} (hx : l[i]? = some x) (hd : x.2 = Lib.tabData .u64 Lib.pow10Tab) (hg : Tryz.prog.globalNamed x.1 = some 6) : Pow W /\ 6 < W.heap.size:=by
 obtain ⟨u,fr,hh⟩:=laid_tab (g:=6) (t:=330) (e:=245) (n:=20) h hx hd hg (by kernel_rfl) (by kernel_rfl) (by kernel_rfl) (by kernel_rfl) (by kernel_rfl);exact ⟨⟨u,fr,hh⟩,(Array.getElem?_eq_some_iff.1 hh).1⟩
end Go.Proofs.YtageielcdebjlaaGreatDoor
