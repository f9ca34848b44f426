/- DeliveryCut: the row and the tied card. -/
import Derived.Test.YtcomifbfldoeiaaGreatDoorQk31
import Derived.Test.YtcomifbfldoeiaaGreatDoorCards
import Derived.Test.YtcomifbfldoeiaaGreatDoorTie
import Derived.WalkKit
import Derived.ProofKit
import Derived.OpenShut
import Derived.Deep.DeepHandedRow
import Derived.Lay
import Derived.Shelf.Vars
set_option maxRecDepth 100000
namespace Go.Proofs.YtcomifbfldoeiaaGreatDoor.DeliveryCut
open Go Go.ChangeShapes Go.WideShapes Go.ChangeAt Go.RowKit Go.Proofs.YtcomifbfldoeiaaGreatDoor
open Go.ChangeMaps (open_string shut_string)
theorem own : ownKnob Tryz.prog.godebug = none:=by kernel_rfl
theorem laidOut : laidOutB Tryz.prog = true:=by kernel_rfl
theorem cells3 : Tryz.prog.cellsOf 3 = 1:=by kernel_rfl
theorem tabs {W : World} (h : laidMetH Tryz.prog Rows.deliveryCutRow.laid W) (m : Int) (hm : W.cell? ⟨0,0,none⟩ = some (.int .i64 m)) : Glob W:=by
 rw [MakeChecks.laidMetH_plain _ _ _ (by kernel_rfl)] at h;obtain ⟨u,fr,hh⟩:=laid_tab (k:=.i64) (zs:=[31,28,31,30,31,30,31,31,30,31,30,31]) (g:=6) (t:=338) (e:=3) (n:=12) h (i:=3) rfl (by kernel_rfl) (by kernel_rfl) (by kernel_rfl) (by kernel_rfl) (by kernel_rfl) (by kernel_rfl) (by kernel_rfl);exact ⟨⟨m,hm⟩,lens_laid h (i:=3) rfl (by kernel_rfl) (by kernel_rfl),⟨err_laid h (i:=6) (t:=153) rfl (by kernel_rfl) (by kernel_rfl) (by kernel_rfl),err_laid h (i:=5) (t:=153) rfl (by kernel_rfl) (by kernel_rfl) (by kernel_rfl)⟩,(pow_laid h (i:=2) rfl (by kernel_rfl) (by kernel_rfl)).1,(Array.getElem?_eq_some_iff.1 hh).1⟩
theorem nums_of {H : Type} {enc : TypeId × Value -> H} {W : World} {fuel : Nat} {ao : Option Addr} {len cap : Nat} {d : DataW H} {p : List MemPlace} (hf : DataW.trod enc Tryz.prog W 0 (fun _ => true) true fuel 22 [.slice ao len cap] = some (d,p)) (hlt : ∀ x ∈ p,x.block < W.heap.size) : Nums W ao len:=by
 rcases open_ints Tryz.underlying22 Tryz.underlying3 cells3 hf with ⟨hcs,hx⟩ | ⟨a,len',cap',zs,hcs,_,hl,hm,hz,hx,hcell,hwz⟩
 ·simp at hcs;obtain ⟨rfl,rfl,rfl⟩:=hcs;intro i hi;omega
 ·simp at hcs;obtain ⟨rfl,rfl,rfl⟩:=hcs;simp only [if_true] at hz;simp only [Prod.mk.injEq] at hx;intro i hi;have hb:=hwz (zs.getD i 0) (by
   rw [List.getD_eq_getElem?_getD,List.getElem?_eq_getElem (by omega)];simp)
  refine ⟨a,zs.getD i 0,rfl,?_,hcell i (by omega),?_⟩
  ·exact hlt (.cell a.block a.off) (by rw [hx.2];exact MemPlace.mem_row.2 ⟨0,by omega,by simp⟩)
  ·simpa [Lit.wf,IntKind.min,IntKind.max,IntKind.signed,IntKind.bits] using hb
theorem contract (H : Type) (enc : TypeId × Value -> H) (W : World) (base : Nat) (args : Array Value) (ds gs : List (DataW H)) (before : List MemPlace)
  (hval : ∀ (j : Nat) t v,Tryz.f6.params[j]? = some t -> args[j]? = some v -> Value.okWide Tryz.prog W .any base t v)
  (hW : DataW.Whole enc Tryz.prog Tryz.f6.params.toList Rows.deliveryCutSpec.vars false W args.toList ds gs before) 
  (hlaid : laidMetH Tryz.prog Rows.deliveryCutRow.laid W) (hsh : W.ShapedOpen Tryz.prog) :
  Calls Tryz.prog 6 args W fun e W' => ∃ v,e = .returned v /\ Rows.deliveryCutSpec.post enc Tryz.prog Tryz.f6 false true false false W args v W':=by
 have hW':=hW;obtain ⟨p,q,hA0,hV,rfl,hfz,hnd⟩:=hW;have hA : DataW.TrodAll enc Tryz.prog W 0 (fun _ => true) true Tryz.f6.params.toList args.toList ds p:=hA0;rw [Tryz.params6] at hA hval;obtain ⟨v0,v1,d0,d1,p0,p1,rfl,rfl,rfl,h0,h1⟩:=trodAll_two hA;obtain ⟨rfl,rfl⟩:=trodVars_none hV;clear hA0;simp only [List.append_nil] at hW';obtain ⟨cb,rfl,rfl,rfl,wc⟩:=open_int Tryz.underlying3 (hval 1 3 v1 rfl rfl) h1;have hlt : ∀ x ∈ p0,x.block < W.heap.size:=fun x hx => by simpa using hW'.lt x (by simp [hx])
 obtain ⟨ao,len,cap,rfl⟩:=okWide_slice Tryz.underlying22 (hval 0 22 v0 rfl rfl);have h0k:=h0;obtain ⟨m,hm⟩ : ∃ m,W.cell? ⟨0,0,none⟩ = some (.int .i64 m):=Go.Proofs.cell_of_shapedOpen_int (zero:=#[.int .i64 0]) (t:=3) hsh (of_decide_eq_true (by kernel_rfl)) (by kernel_rfl) rfl (by kernel_rfl) (by kernel_rfl) Tryz.underlying3;have hGl:=tabs hlaid m hm;have hn : Nums W ao len:=by
  obtain ⟨fuel,hf⟩:=h0;exact nums_of (by simpa [Value.cells] using hf) hlt
 refine (law6 ao len cap cb W hn hGl).mono fun e W' ⟨he,hb⟩ => ?_
 subst he;exact ⟨_,rfl,_,_,_,[],p0 ++ [],[],hW',trodAll_mk1 (shut_bool Tryz.underlying4 _),trodAll_mk2 (Below.trod laidOut (by kernel_rfl) (of_decide_eq_true (by kernel_rfl)) h0k hb hlt) (shut_int Tryz.underlying3 wc),rfl,hb.frame _,fun h => by cases h⟩
noncomputable def laidWorld (os : Os) : World:=World.laidAll Tryz.prog os Rows.deliveryCutRow.laid
def args0 : Array Value:=#[.slice none 0 0,.int .i64 0]
theorem laid_met (os : Os) : laidMet Tryz.prog Rows.deliveryCutRow.laid ((laidWorld os).forCall (fun _ _ => 0) ⟨#[],args0,[]⟩).memory :=
 laidMet_laidAll args0 (by kernel_rfl) (by kernel_rfl)
theorem reads (os : Os) {H : Type} (enc : TypeId × Value -> H) : ∃ places,DataW.whole enc Tryz.prog ((laidWorld os).forCall (fun _ _ => 0) ⟨#[],args0,[]⟩).memory Tryz.f6.params.toList Rows.deliveryCutSpec.vars false args0.toList 8 = some ([.nil,.lit (.int .i64 0)],[],places) :=
 ⟨[],by kernel_rfl⟩
theorem lifted (os : Os) (started : os.Started) (H : Type) (enc : TypeId × Value -> H) (F : Stop.Interp) :
  ReturnsInHanded {} Tryz.checked os 6 .any ((OpenSpec.ofChange Rows.deliveryCutSpec).preRow enc Tryz.prog Tryz.f6 Rows.deliveryCutRow.domain false Rows.deliveryCutRow.laid) (((OpenSpec.ofChange Rows.deliveryCutSpec).at F).post enc Tryz.prog Tryz.f6 false true false false):=by
 obtain ⟨places,hx⟩:=reads os enc;refine returnsInHanded_of_row (C:=Tryz.checked) (s:=OpenSpec.ofChange Rows.deliveryCutSpec) own started (by kernel_rfl) Tryz.func6
  (witness_row_at (enc:=enc) (C:=Tryz.checked) false (laidWorld os) args0 (World.laidAll_os _ _ _) (by kernel_rfl) (by kernel_rfl) (by kernel_rfl)
   (OpenSpec.preRow_of_cond 8 hx (by kernel_rfl) (fun k hk => by cases hk) (by kernel_rfl) (laid_met os))) ?_
 intro W base args ds gs before hval hW _ _ _ hlaid hsh _;exact contract H enc W base args ds gs before hval hW hlaid hsh
end Go.Proofs.YtcomifbfldoeiaaGreatDoor.DeliveryCut
