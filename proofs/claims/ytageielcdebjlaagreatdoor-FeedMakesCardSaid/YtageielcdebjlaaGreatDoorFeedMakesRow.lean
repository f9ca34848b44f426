/- FeedMakes: the row and the tied card. -/
import Derived.Test.YtageielcdebjlaaGreatDoorPk29
import Derived.Test.YtageielcdebjlaaGreatDoorCards
import Derived.Test.YtageielcdebjlaaGreatDoorTie
import Derived.WalkKit
import Derived.ProofKit
import Derived.OpenShut
import Derived.Deep.DeepHandedRow
import Derived.Lay
import Derived.Shelf.Vars
set_option maxRecDepth 100000
namespace Go.Proofs.YtageielcdebjlaaGreatDoor.FeedMakes
open Go Go.ChangeShapes Go.WideShapes Go.ChangeAt Go.RowKit Go.Proofs.YtageielcdebjlaaGreatDoor
open Go.ChangeMaps (open_string shut_string)
theorem own : ownKnob Tryz.prog.godebug = none:=by kernel_rfl
theorem laidOut : laidOutB Tryz.prog = true:=by kernel_rfl
theorem cells3 : Tryz.prog.cellsOf 3 = 1:=by kernel_rfl
theorem tz_laid {W : World} {l : List (String × DataW Unit)} (h : laidMet Tryz.prog l W) {i : Nat} {x : String × DataW Unit} (hx : l[i]? = some x) (hd : x.2 = Lib.tabData .u8 (Lib.deBruijn64tab.map Int.ofNat)) (hg : Tryz.prog.globalNamed x.1 = some 5) : Tz W:=by
 obtain ⟨u,fr,hh⟩:=laid_tab (g:=5) (t:=326) (e:=5) (n:=64) h hx hd hg (by kernel_rfl) (by kernel_rfl) (by kernel_rfl) (by kernel_rfl) (by kernel_rfl);intro j hj;rw [cell_of_row W 5 j _ u fr hh];have hj2 : j < Lib.deBruijn64tab.length:=hj;simp [List.getD_eq_getElem?_getD,hj2]
theorem tabs {W : World} (h : laidMetH Tryz.prog Rows.feedMakesRow.laid W) : Tz W /\ Pow W /\ 6 < W.heap.size:=by
 rw [MakeChecks.laidMetH_plain _ _ _ (by kernel_rfl)] at h;exact ⟨tz_laid h (i:=1) rfl (by kernel_rfl) (by kernel_rfl),pow_laid h (i:=2) rfl (by kernel_rfl) (by kernel_rfl)⟩
theorem contract (H : Type) (enc : TypeId × Value -> H) (W : World) (base : Nat) (args : Array Value) (ds gs : List (DataW H)) (before : List MemPlace)
  (hval : ∀ (j : Nat) t v,Tryz.f14.params[j]? = some t -> args[j]? = some v -> Value.okWide Tryz.prog W .any base t v)
  (hW : DataW.Whole enc Tryz.prog Tryz.f14.params.toList Rows.feedMakesSpec.vars false W args.toList ds gs before) (hre : (DataW.weightsEach Tryz.prog (Tryz.f14.params.toList ++ (OpenSpec.ofChange Rows.feedMakesSpec).bare.plain.varTypes Tryz.prog) (ds ++ gs)).all (· <= reachBytes) = true)
  (hlaid : laidMetH Tryz.prog Rows.feedMakesRow.laid W) (hsh : W.ShapedOpen Tryz.prog) :
  Calls Tryz.prog 14 args W fun e W' => ∃ v,e = .returned v /\ Rows.feedMakesSpec.post enc Tryz.prog Tryz.f14 false true false false W args v W':=by
 have hW':=hW;obtain ⟨p,q,hA0,hV,rfl,hfz,hnd⟩:=hW;have hA : DataW.TrodAll enc Tryz.prog W 0 (fun _ => true) true Tryz.f14.params.toList args.toList ds p:=hA0;rw [Tryz.params14] at hA hval;obtain ⟨v0,v1,v2,d0,d1,d2,p0,p1,p2,rfl,rfl,rfl,h0,h1,h2⟩:=trodAll_three hA;obtain ⟨rfl,rfl⟩:=trodVars_none hV;clear hA0;simp only [List.append_nil,List.append_assoc] at hW';have hlt0 : ∀ x ∈ p0,x.block < W.heap.size:=fun x hx => by simpa using hW'.lt x (by simp [hx])
 have hlt : ∀ x ∈ p2,x.block < W.heap.size:=fun x hx => by simpa using hW'.lt x (by simp [hx])
 have h0k:=h0;obtain ⟨pl,n0,c0,rfl⟩:=okWide_slice Tryz.underlying95 (hval 0 95 v0 rfl rfl);obtain ⟨ls,hls,hll,hLW⟩ : ∃ ls : List (List Ses),n0 = ls.length /\ ls.length <= 9223372036854775807 /\ LstW W.heap.size W pl ls:=by
  obtain ⟨fuel,hf⟩:=h0;obtain ⟨p,cap,ls,e,k1,k2⟩:=open_lists (c:=.slice pl n0 c0) (by simpa [Value.cells] using hf) hlt0;injection e with e1 e2 e3
  subst e1;exact ⟨ls,e2,k1,k2⟩
 subst hls;obtain ⟨nm,rfl,rfl,rfl,ws⟩:=open_string Tryz.underlying9 (hval 1 9 v1 rfl rfl) h1;have hnm : nm.size <= 9223372036854775807:=by
  have h9:=ws;simp only [maxLen] at h9;simpa using h9
 obtain ⟨ao,len,cap,rfl⟩:=okWide_slice Tryz.underlying27 (hval 2 27 v2 rfl rfl);have h2k:=h2;obtain ⟨m,hm⟩ : ∃ m,W.cell? ⟨0,0,none⟩ = some (.int .i64 m):=Go.Proofs.cell_of_shapedOpen_int (zero:=#[.int .i64 0]) (t:=3) hsh (of_decide_eq_true (by kernel_rfl)) (by kernel_rfl) rfl (by kernel_rfl) (by kernel_rfl) Tryz.underlying3;obtain ⟨hTz,hP,h6⟩:=tabs hlaid;have hn : Nums W ao len:=by
  obtain ⟨fuel,hf⟩:=h2;rcases open_ints Tryz.underlying27 Tryz.underlying3 cells3 hf with ⟨hcs,hx⟩ | ⟨a,len',cap',zs,hcs,_,hl,hm,hz,hx,hcell,hwz⟩
  ·simp [Value.cells] at hcs;obtain ⟨rfl,rfl,rfl⟩:=hcs;intro i hi;omega
  ·simp [Value.cells] at hcs;obtain ⟨rfl,rfl,rfl⟩:=hcs;simp only [if_true] at hz;simp only [Prod.mk.injEq] at hx;intro i hi;have hb:=hwz (zs.getD i 0) (by
    rw [List.getD_eq_getElem?_getD,List.getElem?_eq_getElem (by omega)];simp)
   refine ⟨a,zs.getD i 0,rfl,?_,hcell i (by omega),?_⟩
   ·exact hlt (.cell a.block a.off) (by rw [hx.2];exact MemPlace.mem_row.2 ⟨0,by omega,by simp⟩)
   ·simpa [Lit.wf,IntKind.min,IntKind.max,IntKind.signed,IntKind.bits] using hb
 refine (law14 ls pl c0 nm ao len cap W m hLW hll hnm hn hm hTz hP h6).mono fun e W' ⟨he,hb⟩ => ?_
 subst he;exact ⟨_,rfl,_,_,_,[],p0 ++ ([] ++ p2),[],hW',trodAll_mk1 (shut_bool Tryz.underlying4 _),trodAll_mk3 (Below.trod laidOut (by kernel_rfl) (of_decide_eq_true (by kernel_rfl)) h0k hb hlt0) (shut_string Tryz.underlying9 ws) (Below.trod laidOut (by kernel_rfl) (of_decide_eq_true (by kernel_rfl)) h2k hb hlt),rfl,hb.frame _,fun h => by cases h⟩
noncomputable def laidWorld (os : Os) : World:=World.laidAll Tryz.prog os Rows.feedMakesRow.laid
def args0 : Array Value:=#[.slice none 0 0,.string ⟨#[]⟩,.slice none 0 0]
theorem laid_met (os : Os) : laidMet Tryz.prog Rows.feedMakesRow.laid ((laidWorld os).forCall (fun _ _ => 0) ⟨#[],args0,[]⟩).memory :=
 laidMet_laidAll args0 (by kernel_rfl) (by kernel_rfl)
theorem reads (os : Os) {H : Type} (enc : TypeId × Value -> H) : ∃ places,DataW.whole enc Tryz.prog ((laidWorld os).forCall (fun _ _ => 0) ⟨#[],args0,[]⟩).memory Tryz.f14.params.toList Rows.feedMakesSpec.vars false args0.toList 8 = some ([.nil,.lit (.string []),.nil],[],places) :=
 ⟨[],by kernel_rfl⟩
theorem lifted (os : Os) (started : os.Started) (H : Type) (enc : TypeId × Value -> H) (F : Stop.Interp) :
  ReturnsInHanded {} Tryz.checked os 14 .any ((OpenSpec.ofChange Rows.feedMakesSpec).preRow enc Tryz.prog Tryz.f14 Rows.feedMakesRow.domain false Rows.feedMakesRow.laid) (((OpenSpec.ofChange Rows.feedMakesSpec).at F).post enc Tryz.prog Tryz.f14 false true false false):=by
 obtain ⟨places,hx⟩:=reads os enc;refine returnsInHanded_of_row (C:=Tryz.checked) (s:=OpenSpec.ofChange Rows.feedMakesSpec) own started (by kernel_rfl) Tryz.func14
  (witness_row_at (enc:=enc) (C:=Tryz.checked) false (laidWorld os) args0 (World.laidAll_os _ _ _) (by kernel_rfl) (by kernel_rfl) (by kernel_rfl)
   (OpenSpec.preRow_of_cond 12 hx (by kernel_rfl) (fun k hk => by cases hk) (by kernel_rfl) (laid_met os))) ?_
 intro W base args ds gs before hval hW _ _ hre hlaid hsh _;exact contract H enc W base args ds gs before hval hW hre hlaid hsh
end Go.Proofs.YtageielcdebjlaaGreatDoor.FeedMakes
