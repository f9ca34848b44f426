/- DeliveryAtLast: the row and the tied card. -/
import Derived.Test.YtegjgjgoodekiaaGreatDoorLaw3
import Derived.Test.YtegjgjgoodekiaaGreatDoorCards
import Derived.Test.YtegjgjgoodekiaaGreatDoorTie
import Derived.WalkKit
import Derived.ProofKit
import Derived.OpenShut
import Derived.Deep.DeepHandedRow
import Derived.Lay
import Derived.Shelf.Vars
set_option maxRecDepth 100000
namespace Go.Proofs.YtegjgjgoodekiaaGreatDoor.DeliveryAtLast
open Go Go.ChangeShapes Go.WideShapes Go.ChangeAt Go.RowKit Go.Proofs.YtegjgjgoodekiaaGreatDoor
open Go.ChangeMaps (open_string shut_string)
theorem own:ownKnob Tryz.prog.godebug=none:=by kernel_rfl
theorem laidOut:laidOutB Tryz.prog=true:=by kernel_rfl
theorem cells3:Tryz.prog.cellsOf 3=1:=by kernel_rfl
theorem tabs{W:World}(h:laidMetH Tryz.prog Rows.deliveryAtLastRow.laid W)(m:Int)(hm:W.cell? ⟨0,0,none⟩=some (.int .i64 m)):Eu W:=by
 rw[MakeChecks.laidMetH_plain _ _ _ (by kernel_rfl)]at h;obtain⟨u,fr,hh⟩:=Je (k:=.u8) (zs:=[0,1,28,2,29,14,24,3,30,22,20,15,25,17,4,8,31,27,13,23,21,19,16,7,26,12,18,6,11,5,10,9]) (g:=7) (t:=285) (e:=5) (n:=32) h (i:=0) rfl (by kernel_rfl) (by kernel_rfl) (by kernel_rfl) (by kernel_rfl) (by kernel_rfl) (by kernel_rfl) (by kernel_rfl);exact⟨⟨m,hm⟩,Qx h (i:=3) rfl (by kernel_rfl) (by kernel_rfl),⟨Nc h (i:=6) (t:=149) rfl (by kernel_rfl) (by kernel_rfl) (by kernel_rfl),Nc h (i:=5) (t:=149) rfl (by kernel_rfl) (by kernel_rfl) (by kernel_rfl)⟩,(RG h (i:=2) rfl (by kernel_rfl) (by kernel_rfl)).1,by have:=(Array.getElem?_eq_some_iff.1 hh).1;omega⟩
theorem nums_of{H:Type}{enc:TypeId × Value->H}{W:World}{A:Nat}{ao:Option Addr}{w cap:Nat}{d:DataW H}{p:List MemPlace}(hf:DataW.trod enc Tryz.prog W 0 (fun _=>true) true A 22 [.slice ao w cap]=some (d,p))(D: ∀x∈p,x.block<W.heap.size):UD W ao w:=by
 rcases open_ints Tryz.underlying22 Tryz.underlying3 cells3 hf with⟨hcs,hx⟩ | ⟨a,len',cap',zs,hcs,_,hl,hm,hz,hx,hcell,hwz⟩
 ·simp at hcs;obtain⟨rfl,rfl,rfl⟩:=hcs;intro i hi;omega
 ·simp at hcs;obtain⟨rfl,rfl,rfl⟩:=hcs;simp only[if_true]at hz;simp only[Prod.mk.injEq]at hx;intro i hi;have hb:=hwz (zs.getD i 0) (by
   rw[List.getD_eq_getElem?_getD,List.getElem?_eq_getElem (by omega)];simp)
  refine⟨a,zs.getD i 0,rfl,?_,hcell i (by omega),?_⟩
  ·exact D (.cell a.block a.off) (by rw[hx.2];exact MemPlace.mem_row.2 ⟨0,by omega,by simp⟩)
  ·simpa[Lit.wf,IntKind.min,IntKind.max,IntKind.signed,IntKind.bits]using hb
theorem contract(H:Type)(enc:TypeId × Value->H)(W:World)(base:Nat)(args:Array Value)(ds gs:List (DataW H))(A:List MemPlace)
  (w: ∀(j:Nat) t v,Tryz.f3.params[j]?=some t->args[j]?=some v->Value.okWide Tryz.prog W .any base t v)
  (V:DataW.Whole enc Tryz.prog Tryz.f3.params.toList Rows.deliveryAtLastSpec.vars false W args.toList ds gs A) 
  (E:laidMetH Tryz.prog Rows.deliveryAtLastRow.laid W) (U:W.ShapedOpen Tryz.prog):
  Calls Tryz.prog 3 args W fun e W'=> ∃v,e=.returned v/\Rows.deliveryAtLastSpec.post enc Tryz.prog Tryz.f3 false true false false W args v W':=by
 have D:=V;obtain⟨p,q,G,hV,rfl,ab,ac⟩:=V;have X:DataW.TrodAll enc Tryz.prog W 0 (fun _=>true) true Tryz.f3.params.toList args.toList ds p:=G;rw[Tryz.params3]at X w;obtain⟨v0,v1,d0,d1,Y,p1,rfl,rfl,rfl,Z,h1⟩:=trodAll_two X;obtain⟨rfl,rfl⟩:=trodVars_none hV;clear G;simp only[List.append_nil]at D;obtain⟨O,rfl,rfl,rfl,wc⟩:=open_int Tryz.underlying5 (w 1 5 v1 rfl rfl) h1;have R:0<=O/\O<=255:=by simpa[Lit.wf,IntKind.min,IntKind.max,IntKind.signed,IntKind.bits]using wc
 have F: ∀x∈Y,x.block<W.heap.size:=fun x hx=>by simpa using D.lt x (by simp[hx])
 obtain⟨ao,J,cap,rfl⟩:=okWide_slice Tryz.underlying22 (w 0 22 v0 rfl rfl);have M:=Z;obtain⟨m,hm⟩: ∃m,W.cell? ⟨0,0,none⟩=some (.int .i64 m):=Go.Proofs.cell_of_shapedOpen_int (zero:=#[.int .i64 0]) (t:=3) U (of_decide_eq_true (by kernel_rfl)) (by kernel_rfl) rfl (by kernel_rfl) (by kernel_rfl) Tryz.underlying3;have T:=tabs E m hm;have hn:UD W ao J:=by
  obtain⟨aa,hf⟩:=Z;exact nums_of (by simpa[Value.cells]using hf) F
 refine(WH ao J cap O W hn T R.1).mono fun e W' ⟨he,hb⟩=>?_
 subst he;exact⟨_,rfl,_,_,_,[],Y++[],[],D,trodAll_mk1 (shut_bool Tryz.underlying4 _),trodAll_mk2 (Below.trod laidOut (by kernel_rfl) (of_decide_eq_true (by kernel_rfl)) M hb F) (shut_int Tryz.underlying5 wc),rfl,hb.frame _,fun h=>by cases h⟩
noncomputable def laidWorld(os:Os):World:=World.laidAll Tryz.prog os Rows.deliveryAtLastRow.laid
def args0:Array Value:=#[.slice none 0 0,.int .u8 0]
theorem laid_met(w:Os):laidMet Tryz.prog Rows.deliveryAtLastRow.laid ((laidWorld w).forCall (fun _ _=>0) ⟨#[],args0,[]⟩).memory:=
 laidMet_laidAll args0 (by kernel_rfl) (by kernel_rfl)
theorem reads(w:Os){H:Type}(enc:TypeId × Value->H): ∃places,DataW.whole enc Tryz.prog ((laidWorld w).forCall (fun _ _=>0) ⟨#[],args0,[]⟩).memory Tryz.f3.params.toList Rows.deliveryAtLastSpec.vars false args0.toList 8=some ([.nil,.lit (.int .u8 0)],[],places):=
 ⟨[],by kernel_rfl⟩
theorem lifted(E:Os)(w:E.Started)(H:Type)(enc:TypeId × Value->H)(F:Stop.Interp):
  ReturnsInHanded {} Tryz.checked E 3 .any ((OpenSpec.ofChange Rows.deliveryAtLastSpec).preRow enc Tryz.prog Tryz.f3 Rows.deliveryAtLastRow.domain false Rows.deliveryAtLastRow.laid) (((OpenSpec.ofChange Rows.deliveryAtLastSpec).at F).post enc Tryz.prog Tryz.f3 false true false false):=by
 obtain⟨J,hx⟩:=reads E enc;refine returnsInHanded_of_row (C:=Tryz.checked) (s:=OpenSpec.ofChange Rows.deliveryAtLastSpec) own w (by kernel_rfl) Tryz.func3
  (witness_row_at (enc:=enc) (C:=Tryz.checked) false (laidWorld E) args0 (World.laidAll_os _ _ _) (by kernel_rfl) (by kernel_rfl) (by kernel_rfl)
   (OpenSpec.preRow_of_cond 8 hx (by kernel_rfl) (fun k hk=>by cases hk) (by kernel_rfl) (laid_met E))) ?_
 intro W base args ds R A G O _ _ _ D M _;exact contract H enc W base args ds R A G O D M
end Go.Proofs.YtegjgjgoodekiaaGreatDoor.DeliveryAtLast
