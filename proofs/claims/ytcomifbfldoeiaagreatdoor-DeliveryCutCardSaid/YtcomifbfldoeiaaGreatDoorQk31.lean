/- Deliveries: the sanity check, and a drawn feed. Condition: none. Deliveries: plain laws of a cut answer. No function of the program in sight. Condition: none. DeliveryCut: the law: true. Condition: none. -/
import Derived.Test.YtcomifbfldoeiaaGreatDoorQk30
import Derived.Test.YtcomifbfldoeiaaGreatDoorQk28
open List renaming not_mem_nil->xa,mem_cons->xb,length_map->xd,mem_singleton->xi,length_cons->xj,length_nil->xk
open Nat renaming lt_of_lt_of_le->xc,zero_mul->xe,le_trans->xf,add_zero->xg,le_refl->xh,zero_add->xl
set_option maxRecDepth 100000
set_option maxHeartbeats 40000000
namespace Go.Proofs.YtcomifbfldoeiaaGreatDoor
open Go.RowKit
theorem evs_zero (v : Int) : ∀ (es : List Ev) (k : Int) (p : Option ByteArray),0 <= k -> k + es.length <= 9 -> (∀ (i : Nat) (e : Ev),es[i]? = some e -> UidK (k + i) e.uid /\ checkV e v = 0) -> (∀ q,p = some q -> UidK (k - 1) q) -> evsV v p es = 0
 | [],_,_,_,_,_,_ => by unfold evsV;rfl
 | e :: r,k,p,hk,hl,h,hp => by
  obtain ⟨h1,h2⟩:=h 0 e rfl;have h1 : UidK k e.uid:=by simpa using h1
  refine (evsV_cons v p e r).2 ⟨h1.right hk (by simp at hl;omega),?_,h2,evs_zero v r (k + 1) (some e.uid) (by omega) (by simp at hl;omega) (fun i x hx => ?_) (fun q hq => by cases hq;rw [show k + 1 - 1 = k by omega];exact h1)⟩
  ·cases p with
   | none => rfl
   | some q => exact (hp q rfl).late (by rw [show k - 1 + 1 = k by omega];exact h1)
  ·have:=h (i + 1) x hx;rw [show k + 1 + (i : Int) = k + ((i + 1 : Nat) : Int) by omega];exact this
theorem feed_zero {n : ByteArray} {v : Int} {ts : List (Ev × Value × Value)} (hn : Tt.code n.data.toList = true) (h0 : 1 <= v) (h1 : v <= 6) (hl : ts.length <= 4) (h : ∀ (i : Nat) (t : Ev × Value × Value),ts[i]? = some t -> UidK i t.1.uid /\ checkV t.1 v = 0) : feedV n v (ts.map (·.1)) = 0:=by
 unfold feedV;rw [if_neg (by simp [hn]),if_neg (by omega),if_neg (by rw [xd];omega)];refine evs_zero v _ 0 none (by omega) (by rw [xd];omega) (fun i e he => ?_) (fun q hq => by cases hq);rw [List.getElem?_map] at he;obtain ⟨t,ht,rfl⟩:=Option.map_eq_some_iff.1 he;rw [Int.zero_add];exact h i t ht
theorem feed0 : feedV ⟨#[120]⟩ 1 [e0] = 0:=by kernel_rfl
theorem mrg0 : mrg [] [e0] = ([e0],[⟨1,e0.uid,1⟩]):=by kernel_rfl
theorem evb0 : EvB e0:=⟨by decide,by decide,by decide,by decide,by decide⟩
def sx (k : Int) : StX:=⟨st k,none,0⟩
def sp (n : ByteArray) (v : Int) (es : List Ev) (a : Option Addr) (c : Nat) : StX:=⟨stP n v es,a,c⟩
theorem code_z : Tt.code (⟨#[122]⟩ : ByteArray).data.toList = true:=by decide
theorem code_c : Tt.code (⟨#[99,97,109,112,117,115]⟩ : ByteArray).data.toList = true:=by decide
theorem Rd.blk {α : Type} {f : α -> List Value} {g : Nat} {ty : TypeId} {w : World} {xs : List α} (h : Blk g (gC f xs).toArray ty w) : Rd f w.heap.size w (some ⟨g,0,none⟩) xs :=
 .inr ⟨g,0,rfl,h.lt,fun j u hj => by rw [xl,h.cell];simpa using hj⟩
theorem doV_bad {W : Wld} {s : Stp} (h : (doV W s).2 ≠ 0) : (doV W s).1.2 = []:=by
 unfold doV at h ⊢;split
 ·rfl
 ·split
  ·rfl
  ·split
   ·rfl
   ·rename_i h1 h2 h3
    rw [if_neg h1,if_neg h2,if_neg h3] at h;exact absurd h h3
theorem notes_le {W : Wld} {zs : List StX} {k : Nat} (hnl : ∀ i,i <= zs.length -> (runW W ((zs.take i).map StX.s)).1.2.length <= k) : ∀ i x,zs[i]? = some x -> (doV (runW W ((zs.take i).map StX.s)).1.1 x.s).1.2.length <= k:=fun i x hx => by
 obtain ⟨h1,h2⟩:=List.getElem?_eq_some_iff.1 hx;have h:=hnl (i + 1) h1;rw [List.take_succ_eq_append_getElem h1,h2,List.map_append,List.map_cons,List.map_nil,runW_snoc] at h;unfold stepV at h;split at h
 ·simp only [List.length_append] at h;omega
 ·rename_i hb
  rw [doV_bad hb];exact Nat.zero_le _
section
variable {n z : ByteArray} {v : Int} {es : List Ev}
def kl (n : ByteArray) (v : Int) (es : List Ev) : List Stp:=[stP n v es,st 2,st 3,st 4,st 2,st 3]
theorem known_ok (hv : feedV n v es = 0) (h1 : 1 <= v) (hz : Tt.code z.data.toList = true) (hl : es.length <= 4) (i : Nat) (hi : i <= 6) : ValidW (runW (newW z) ((kl n v es).take i)).1.1 /\ (runW (newW z) ((kl n v es).take i)).1.2.length <= 1000000:=by
 obtain ⟨e1,e2,e3,e4,e5,e6⟩:=known_run hv h1 hz hl;have hr:=rd1 hv hl;have hm:=(mrg_len [] es es.length (xh _)).2;rw [mrg_all] at hm;have hn : ((mrg [] es).2.map (Nte.mk 0)).length <= 1000000:=by rw [xd];omega
 have hi7 : i = 0 ∨ i = 1 ∨ i = 2 ∨ i = 3 ∨ i = 4 ∨ i = 5 ∨ i = 6:=by omega
 rcases hi7 with rfl | rfl | rfl | rfl | rfl | rfl | rfl
 ·exact ⟨vw0 hz,by show 0 <= 1000000;decide⟩
 ·rw [show (kl n v es).take 1 = [stP n v es] from rfl,e1];exact ⟨vw hv hz hl _ _ (by simp) (by simp) rd0,by simp⟩
 ·rw [show (kl n v es).take 2 = [stP n v es,st 2] from rfl,e2];exact ⟨vw hv hz hl _ _ (by simp) (by simp [msgOk]) rd0,by simp⟩
 ·rw [show (kl n v es).take 3 = [stP n v es,st 2,st 3] from rfl,e3];exact ⟨vw hv hz hl _ _ (by simp) (by simp [msgOk]) rd0,by simp⟩
 ·rw [show (kl n v es).take 4 = [stP n v es,st 2,st 3,st 4] from rfl,e4];exact ⟨vw hv hz hl _ _ (by simp) (by simp) hr,hn⟩
 ·rw [show (kl n v es).take 5 = [stP n v es,st 2,st 3,st 4,st 2] from rfl,e5];exact ⟨vw hv hz hl _ _ (by simp) (by simp [msgOk]) hr,hn⟩
 ·rw [show (kl n v es).take 6 = [stP n v es,st 2,st 3,st 4,st 2,st 3] from rfl,e6];exact ⟨vw hv hz hl _ _ (by simp) (by simp [msgOk]) hr,hn⟩
end
theorem awake11 (w : World) (hG : Glob w) : Calls Tryz.prog 11 #[] w fun e w' => e = .returned (.bool true) /\ Below w.heap.size w w':=by
 have HG:=Lh hG;have HNW:=Lh (new13 ⟨#[122]⟩ code_z w);clear hG;go_enter Tryz.func11,Tryz.ntmps11;go_wp2_with fail;refine HNW.out.mono ?_;rintro e w1 ⟨vr,rfl,hO1,hb1⟩;obtain ⟨aw1,cw1,ar1,cr1, -, -,e1,rfl, -,hWA1, -, -⟩:=hO1.wat;simp only [Value.slice.injEq] at e1;obtain ⟨rfl, -,rfl⟩:=e1;obtain ⟨P,hP⟩ : ∃ P,P = w1.heap.size:=⟨_,rfl⟩
 obtain ⟨A,hA⟩ : ∃ A,A = w1.heap.size + 1:=⟨_,rfl⟩
 obtain ⟨W1,hW1⟩ : ∃ W1,W1 = ((w1.alloc (.cells #[.string ⟨#[122]⟩,.string ⟨#[]⟩,.slice none 0 0,.slice ar1 1 cr1] 31)).alloc (.cells #[.string ⟨#[99,64,49]⟩,.int .i64 1,.bool false,.int .i64 2,.int .i64 2,.int .i64 1,.int .i64 1,.slice none 0 0,.slice none 0 0,.int .i64 0,.int .i64 45,.string ⟨#[99]⟩,.string ⟨#[]⟩] 104)).alloc (.cells #[.string ⟨#[120]⟩,.int .i64 1,.slice (some ⟨w1.heap.size + 1,0,none⟩) 1 1] 49):=⟨_,rfl⟩
 obtain ⟨X,hX⟩ : ∃ X,X = W1.alloc (.cells (gC stF [sp ⟨#[120]⟩ 1 [e0] (some ⟨A,0,none⟩) 1,sx 2,sx 3,sx 4]).toArray 51):=⟨_,rfl⟩
 have hs1 : W1.heap.size = w1.heap.size + 3:=by rw [hW1];simp
 have hb2 : Below w1.heap.size w1 W1:=by rw [hW1];exact ((below_box w1 _).alloc (by simp) _).alloc (by simp;omega) _
 have hb3 : Below w1.heap.size w1 X:=by rw [hX];exact hb2.alloc hb2.size _
 have HBX:=Lh (hb1.trans (hb3.mono hb1.size));have HPX:=Lh (show Blk P #[.string ⟨#[122]⟩,.string ⟨#[]⟩,.slice none 0 0,.slice ar1 1 cr1] 31 W1 from by rw [hW1,hP];exact ((Blk.new w1 _ _).alloc _).alloc _);have HEX:=Lh (show Blk A (evCells e0 (.slice none 0 0) (.slice none 0 0)) 104 X from by rw [hX,hW1,hA];exact ((Blk.new' (g:=w1.heap.size + 1) _ _ _ (by simp)).alloc _).alloc _);have HFX:=Lh (show Blk (A + 1) #[.string ⟨#[120]⟩,.int .i64 1,.slice (some ⟨A,0,none⟩) 1 1] 49 W1 from by rw [hW1,hA];exact Blk.new' (g:=w1.heap.size + 1 + 1) _ _ _ (by simp));have HSX:=Lh (Rd.blk (f:=stF) (xs:=[sp ⟨#[120]⟩ 1 [e0] (some ⟨A,0,none⟩) 1,sx 2,sx 3,sx 4]) (show Blk W1.heap.size _ 51 X from by rw [hX];exact Blk.new W1 _ _));have HSg:=Lh (show Seg X.heap.size X (some ⟨A,0,none⟩) [(e0,.slice none 0 0,.slice none 0 0)] from ⟨.inr ⟨A,0,rfl,HEX.out.lt,fun j u hj => by
  rw [tCells_sole] at hj;rw [xl,HEX.out.cell];simpa using hj⟩,fun t ht => by
  rw [xi.1 ht];exact ⟨evb0,⟨none,0,rfl,fun j x h => by simp [e0] at h⟩,⟨none,0,rfl,fun j x h => by simp [e0] at h⟩⟩⟩)
 have HRN:=Lh (run20 (newW ⟨#[122]⟩) [sp ⟨#[120]⟩ 1 [e0] (some ⟨A,0,none⟩) 1,sx 2,sx 3,sx 4] none ar1 (some ⟨W1.heap.size,0,none⟩) 0 cr1 4 _ X ((hWA1.below hb3).mono hb3.size) (HG.out.made HBX.out) HSX.out (fun x hx => by
   simp only [xb,xa,or_false] at hx;rcases hx with rfl | rfl | rfl | rfl
   ·exact HSg.out.evs
   ·exact .inl rfl
   ·exact .inl rfl
   ·exact .inl rfl) (by show 4 <= 1000;decide)
  (fun i hi => by
   have hi4 : i <= 4:=hi;have h:=(known_ok (z:=⟨#[122]⟩) feed0 (by decide) code_z (by decide) i (by omega)).1;have e : ([sp ⟨#[120]⟩ 1 [e0] (some ⟨A,0,none⟩) 1,sx 2,sx 3,sx 4].take i).map StX.s = (kl ⟨#[120]⟩ 1 [e0]).take i:=by
    have hi5 : i = 0 ∨ i = 1 ∨ i = 2 ∨ i = 3 ∨ i = 4:=by omega
    rcases hi5 with rfl | rfl | rfl | rfl | rfl <;> rfl
   rw [e];exact h)
  (fun i hi => by
   have hi4 : i <= 4:=hi;have h:=(known_ok (z:=⟨#[122]⟩) feed0 (by decide) code_z (by decide) i (by omega)).2;have e : ([sp ⟨#[120]⟩ 1 [e0] (some ⟨A,0,none⟩) 1,sx 2,sx 3,sx 4].take i).map StX.s = (kl ⟨#[120]⟩ 1 [e0]).take i:=by
    have hi5 : i = 0 ∨ i = 1 ∨ i = 2 ∨ i = 3 ∨ i = 4:=by omega
    rcases hi5 with rfl | rfl | rfl | rfl | rfl <;> rfl
   rw [e];exact h)
  (notes_le (fun i hi => by
   have hi4 : i <= 4:=hi;have h:=(known_ok (z:=⟨#[122]⟩) feed0 (by decide) code_z (by decide) i (by omega)).2;have e : ([sp ⟨#[120]⟩ 1 [e0] (some ⟨A,0,none⟩) 1,sx 2,sx 3,sx 4].take i).map StX.s = (kl ⟨#[120]⟩ 1 [e0]).take i:=by
    have hi5 : i = 0 ∨ i = 1 ∨ i = 2 ∨ i = 3 ∨ i = 4:=by omega
    rcases hi5 with rfl | rfl | rfl | rfl | rfl <;> rfl
   rw [e];exact h))
  (fun x hx => by
   simp only [xb,xa,or_false] at hx;rcases hx with rfl | rfl | rfl | rfl <;> simp [sp,sx,st,stP])
  (fun x hx => by
   simp only [xb,xa,or_false] at hx;rcases hx with rfl | rfl | rfl | rfl <;> (simp [sp,sx,st,stP])))
 rw [show ([sp ⟨#[120]⟩ 1 [e0] (some ⟨A,0,none⟩) 1,sx 2,sx 3,sx 4].map StX.s) = [stP ⟨#[120]⟩ 1 [e0],st 2,st 3,st 4] from rfl,(known_run (z:=⟨#[122]⟩) feed0 (by decide) code_z (by decide)).2.2.2.1,mrg0] at HRN;have p0 : W1.cell? ⟨P,0,none⟩ = some (.string ⟨#[122]⟩):=HPX.out.cell 0;have p1 : W1.cell? ⟨P,1,none⟩ = some (.string ⟨#[]⟩):=HPX.out.cell 1;have p2 : W1.cell? ⟨P,2,none⟩ = some (.slice none 0 0):=HPX.out.cell 2;have p3 : W1.cell? ⟨P,3,none⟩ = some (.slice ar1 1 cr1):=HPX.out.cell 3;have f0 : W1.cell? ⟨A + 1,0,none⟩ = some (.string ⟨#[120]⟩):=HFX.out.cell 0;have f1 : W1.cell? ⟨A + 1,1,none⟩ = some (.int .i64 1):=HFX.out.cell 1;have f2 : W1.cell? ⟨A + 1,2,none⟩ = some (.slice (some ⟨A,0,none⟩) 1 1):=HFX.out.cell 2;unfold wldY;rw [show (newW ⟨#[122]⟩).zone = ⟨#[122]⟩ from rfl,show (newW ⟨#[122]⟩).cur = ⟨#[]⟩ from rfl,show (newW ⟨#[122]⟩).rds.length = 1 from rfl];go_upto_region 3 with (fail);rw [<- hW1];rw [<- hA,<- hP];clear hW1 hb2 hb3 hs1 hP hA hWA1;go_wp2_with fail;show Calls Tryz.prog 20 _ (W1.alloc (.cells (gC stF [sp ⟨#[120]⟩ 1 [e0] (some ⟨A,0,none⟩) 1,sx 2,sx 3,sx 4]).toArray 51)) _
 rw [<- hX];refine HRN.out.mono ?_;rintro e w5 ⟨vw5,vr5,vn5,xs5,ge,arr,rfl,hO5,hGE,hle,hcs,hb5⟩;obtain ⟨aw5,cw5,ar5,cr5,an5,cn5,rfl,rfl,rfl,hWA5,hRN5, -⟩:=hO5.wat;have hxl : ∃ x,xs5 = [x] /\ x.ts.length = 1:=by
  have h:=hO5.rmap;match xs5,h with
  | [x],h => exact ⟨x,rfl,by simpa [RdX.r] using congrArg (fun l => (l.map (fun r => r.es.length))) h⟩
 obtain ⟨x,rfl,hx1⟩:=hxl;obtain ⟨gr,og,hag,hgr,hcr⟩:=Rd.get rdF_len hWA5.rds.row (show [x][0]? = some x from rfl);obtain ⟨gn,on,han,hgn,hcn⟩:=Rd.get nteF_len hRN5 (show ([Nte.mk 0 ⟨1,e0.uid,1⟩] : List Nte)[0]? = some (Nte.mk 0 ⟨1,e0.uid,1⟩) from rfl);subst hag han;obtain ⟨Q,hQ⟩ : ∃ Q,Q = w5.heap.size:=⟨_,rfl⟩
 obtain ⟨Z,hZ⟩ : ∃ Z,Z = w5.alloc (.cells #[.string ⟨#[122]⟩,.string (SV ⟨#[120]⟩ 1 [e0] ⟨#[122]⟩),.slice aw5 0 cw5,.slice (some ⟨gr,og,none⟩) 1 cr5] 31):=⟨_,rfl⟩
 have hbZ : Below w5.heap.size w5 Z:=by rw [hZ];exact below_box w5 _
 have HQZ:=Lh (show Blk Q #[.string ⟨#[122]⟩,.string (SV ⟨#[120]⟩ 1 [e0] ⟨#[122]⟩),.slice aw5 0 cw5,.slice (some ⟨gr,og,none⟩) 1 cr5] 31 Z from by rw [hZ,hQ];exact Blk.new w5 _ _);have HGZ:=Lh (hGE.below hbZ hGE.lt);have hmk4 : ∀ w : World,(Instr.makeSlice 54 (.int .i64 4) (.int .i64 4)).run Tryz.prog w = .ok (.slice (some ⟨w.heap.size,0,none⟩) 4 4) (w.alloc (.cells #[.int .i64 0,.int .i64 0,.int .i64 0,.int .i64 0] 32)):=fun _ => by kernel_rfl
 obtain ⟨V,hV⟩ : ∃ V,V = Z.alloc (.cells #[.int .i64 0,.int .i64 0,.int .i64 0,.int .i64 0] 32):=⟨_,rfl⟩
 have hbV : Below Z.heap.size Z V:=by rw [hV];exact below_box Z _
 have HBV:=Lh (HBX.out.trans ((hb5.mono HBX.out.size).trans ((hbZ.mono (xf HBX.out.size hb5.size)).trans (hbV.mono (xf HBX.out.size (xf hb5.size hbZ.size))))));have HQV:=Lh (HQZ.out.below hbV HQZ.out.lt);have HGV:=Lh (HGZ.out.below hbV HGZ.out.lt);have HSE:=Lh (sameerr22 [0,0,0,0] [0,0,0,0] ge Z.heap.size 4 4 V (fun j c h => (HGV.out.cell j).trans (hcs j c h)) (fun j c h => by
  rw [(show Blk Z.heap.size #[.int .i64 0,.int .i64 0,.int .i64 0,.int .i64 0] 32 V from by rw [hV];exact Blk.new Z _ _).cell];match j,h with
  | 0,h => cases h;rfl
  | 1,h => cases h;rfl
  | 2,h => cases h;rfl
  | 3,h => cases h;rfl
  | j + 4,h => simp at h) ⟨HGV.out.lt,by rw [hV];simp⟩ rfl (by decide) (fun c h => by simp at h;omega))
 have hb5V : Below w5.heap.size w5 V:=hbZ.trans (hbV.mono hbZ.size);have n1 : V.cell? ⟨gn,on + 1,none⟩ = some (.int .i64 1):=(hb5V.cell (p:=⟨gn,on + 1,none⟩) hgn).trans (by have h:=hcn 1 _ (by omega) rfl;rwa [xe,xg] at h);have r2 : V.cell? ⟨gr,og + 2,none⟩ = some (.slice x.ao 1 x.c):=(hb5V.cell (p:=⟨gr,og + 2,none⟩) hgr).trans (by have h:=hcr 2 _ (by omega) rfl;rw [xe,xg] at h;rw [h,hx1]);have hgnV : gn < V.heap.size:=xc hgn hb5V.size;have hgrV : gr < V.heap.size:=xc hgr hb5V.size;have HN1:=Lh n1;have HR2:=Lh r2;have HGN:=Lh hgnV;have HGR:=Lh hgrV;clear n1 r2 hgnV hgrV hgn hgr hcn hcr hWA5 hRN5 hO5 hGE hcs hb5 hb5V hbV hbZ hx1 hle p0 p1 p2 p3 f0 f1 f2 HPX HFX hX HEX HSg HSX;rw [show decide (([0,0,0,0] : List Int) = [0,0,0,0]) = true from rfl] at HSE;unfold wldY;go_upto_region 4 with (fail);rw [<- hZ,<- hQ];have hvs : V.heap.size = Z.heap.size + 1:=by rw [hV];simp
 clear hZ hQ;go_wp2_with fail;rw [<- hV];clear hV hvs;refine HSE.out.mono ?_;rintro e w6 ⟨rfl,hb6⟩;have HQ6:=Lh (HQV.out.below hb6 HQV.out.lt);have n1 : w6.cell? ⟨gn,on + 1,none⟩ = some (.int .i64 1):=(hb6.cell (p:=⟨gn,on + 1,none⟩) HGN.out).trans HN1.out;have r2 : w6.cell? ⟨gr,og + 2,none⟩ = some (.slice x.ao 1 x.c):=(hb6.cell (p:=⟨gr,og + 2,none⟩) HGR.out).trans HR2.out;have q2 : w6.cell? ⟨Q,2,none⟩ = some (.slice aw5 0 cw5):=HQ6.out.cell 2;have q3 : w6.cell? ⟨Q,3,none⟩ = some (.slice (some ⟨gr,og,none⟩) 1 cr5):=HQ6.out.cell 3;have HB6:=Lh (HBV.out.trans (hb6.mono HBV.out.size));clear hb6;go_wp2_with fail;go_ret;exact ⟨rfl,HB6.out⟩
theorem putE_last (e : Ev) : ∀ es : List Ev,(∀ s ∈ es,lessU s.uid e.uid = true) -> putE e es = es ++ [e]
 | [],_ => rfl
 | s :: r,h => by
  unfold putE;rw [if_pos (h s (List.mem_cons_self ..)),putE_last e r (fun x hx => h x (List.mem_cons_of_mem _ hx))];rfl
theorem mrg_run {v : Int} : ∀ (fs acc : List Ev) (ns : List Nt) (p : Option ByteArray),evsV v p fs = 0 -> ((p = none /\ acc = []) ∨ ∃ q,p = some q /\ ∀ s ∈ acc,s.uid = q ∨ lessU s.uid q = true) -> (fs.foldl stepM (acc,ns)).1 = acc ++ fs
 | [],acc,ns,p,_,_ => by simp
 | e :: r,acc,ns,p,h,hp => by
  obtain ⟨h1,h2,h3,h4⟩:=(evsV_cons v p e r).1 h;have hless : ∀ s ∈ acc,lessU s.uid e.uid = true:=fun s hs => by
   rcases hp with ⟨rfl,rfl⟩ | ⟨q,rfl,hq⟩
   ·cases hs
   ·have hl:=late_less h2;rcases hq s hs with he | hk
    ·rw [he];exact hl
    ·exact lessU_trans hk hl
  have hf : findFrom e.uid acc 0 = -1:=findFrom_none _ _ _ (fun s hs hu => by
   have:=hless s hs;rw [hu,lessU_irrefl] at this;cases this)
  rw [List.foldl_cons,stepM_none hf,putE_last e acc hless,mrg_run r (acc ++ [e]) _ (some e.uid) h4 (.inr ⟨e.uid,rfl,fun s hs => by
   rcases List.mem_append.1 hs with hs | hs
   ·exact .inr (hless s hs)
   ·rw [xi.1 hs];exact .inl rfl⟩),List.append_assoc]
  rfl
theorem mrg_self {n : ByteArray} {v : Int} {es : List Ev} (h : feedV n v es = 0) : (mrg [] es).1 = es:=by
 have:=mrg_run es [] [] none (feedV_ok h).2.2.2 (.inl ⟨rfl,rfl⟩);simpa [mrg] using this
theorem cutS_take (l : List UInt8) (k : Int) (_h0 : 0 <= k) (h1 : k <= l.length) : cutS (str l) k = str (l.take k.toNat):=by
 have hs : (str l).size = l.length:=size_mk l;unfold cutS;rw [hs,show (min (max k 0) (l.length : Int)).toNat = k.toNat by omega];apply ByteArray.ext
 simp [str]
def sc (k : Int) : Stp:=⟨7,0,k,⟨#[]⟩,0,[]⟩
section
variable {n z : ByteArray} {v : Int} {es : List Ev}
theorem do_cut (hv : feedV n v es = 0) (hz : Tt.code z.data.toList = true) (hl : es.length <= 4) (r : Rdr) (hr : rdOk r.v r.es = true) (t k : Int) (b : ByteArray) : doV ⟨z,SV n v es z,[⟨0,true,t,b⟩],[r]⟩ (sc k) = ((⟨z,SV n v es z,[⟨0,true,t,cutS b k⟩],[r]⟩,[]),0):=by
 refine doV_ok (vw hv hz hl _ r (by simp) (by simp [msgOk]) hr) (by show (1 : Int) <= 7;decide) (by show (7 : Int) <= 7;decide) ?_ rfl;rw [meth7 rfl];rfl
theorem do_lost (hv : feedV n v es = 0) (hz : Tt.code z.data.toList = true) (hl : es.length <= 4) (r : Rdr) (hr : rdOk r.v r.es = true) (t k : Int) (h0 : 0 <= k) (hk : k < (feedT n.data.toList v es z.data.toList).length) : doV ⟨z,SV n v es z,[⟨0,true,t,cutS (SV n v es z) k⟩],[r]⟩ (st 4) = ((⟨z,SV n v es z,[],[r]⟩,[]),0):=by
 refine doV_ok (vw hv hz hl _ r (by simp) (by simp [msgOk]) hr) (by show (1 : Int) <= 4;decide) (by show (4 : Int) <= 7;decide) ?_ rfl;rw [meth4 rfl];have h : delV ⟨z,SV n v es z,[⟨0,true,t,cutS (SV n v es z) k⟩],[r]⟩ [] (st 4) = (((delM ⟨z,SV n v es z,[],[r]⟩ ⟨0,true,t,cutS (SV n v es z) k⟩).1,[] ++ (delM ⟨z,SV n v es z,[],[r]⟩ ⟨0,true,t,cutS (SV n v es z) k⟩).2),0):=rfl;obtain ⟨c,hc,hp⟩:=parseV_cut (y:=z) hv hz k.toNat (by omega);rw [h,delM_no (.inl (by
  show (parseV (cutS (SV n v es z) k) z).2 ≠ 0
  unfold SV;rw [cutS_take _ k h0 (by omega),hp];exact hc))]
 rfl
def cl (n : ByteArray) (v : Int) (es : List Ev) (k : Int) : List Stp:=[stP n v es,st 2,st 3,sc k,st 4]
theorem cut_run (hv : feedV n v es = 0) (h1 : 1 <= v) (hz : Tt.code z.data.toList = true) (hl : es.length <= 4) (k : Int) (h0 : 0 <= k) (hk : k < (feedT n.data.toList v es z.data.toList).length) :
  runW (newW z) [stP n v es,st 2,st 3,sc k] = ((⟨z,SV n v es z,[⟨0,true,tagV (SV n v es z) v,cutS (SV n v es z) k⟩],[⟨0,0,[]⟩]⟩,[]),[0,0,0,0]) /\
  runW (newW z) [stP n v es,st 2,st 3,sc k,st 4] = ((⟨z,SV n v es z,[],[⟨0,0,[]⟩]⟩,[]),[0,0,0,0,0]):=by
 obtain ⟨e1,e2,e3, -, -, -⟩:=known_run hv h1 hz hl;have e4 : runW (newW z) [stP n v es,st 2,st 3,sc k] = ((⟨z,SV n v es z,[⟨0,true,tagV (SV n v es z) v,cutS (SV n v es z) k⟩],[⟨0,0,[]⟩]⟩,[]),[0,0,0,0]):=by
  rw [show [stP n v es,st 2,st 3,sc k] = [stP n v es,st 2,st 3] ++ [sc k] from rfl,runW_snoc,e3,stepV_ok (do_cut hv hz hl _ rd0 _ _ _) rfl];rfl
 refine ⟨e4,?_⟩;rw [show [stP n v es,st 2,st 3,sc k,st 4] = [stP n v es,st 2,st 3,sc k] ++ [st 4] from rfl,runW_snoc,e4,stepV_ok (do_lost hv hz hl _ rd0 _ k h0 hk) rfl];rfl
theorem cut_ok (hv : feedV n v es = 0) (h1 : 1 <= v) (hz : Tt.code z.data.toList = true) (hl : es.length <= 4) (k : Int) (h0 : 0 <= k) (hk : k < (feedT n.data.toList v es z.data.toList).length) (i : Nat) (hi : i <= 5) : ValidW (runW (newW z) ((cl n v es k).take i)).1.1 /\ (runW (newW z) ((cl n v es k).take i)).1.2.length <= 1000000:=by
 obtain ⟨e4,e5⟩:=cut_run hv h1 hz hl k h0 hk;have hi7 : i <= 3 ∨ i = 4 ∨ i = 5:=by omega
 rcases hi7 with h | rfl | rfl
 ·have e : (cl n v es k).take i = (kl n v es).take i:=by
   have hi3 : i = 0 ∨ i = 1 ∨ i = 2 ∨ i = 3:=by omega
   rcases hi3 with rfl | rfl | rfl | rfl <;> rfl
  rw [e];exact known_ok hv h1 hz hl i (by omega)
 ·rw [show (cl n v es k).take 4 = [stP n v es,st 2,st 3,sc k] from rfl,e4];exact ⟨vw hv hz hl _ _ (by simp) (by simp [msgOk]) rd0,by simp⟩
 ·rw [show (cl n v es k).take 5 = [stP n v es,st 2,st 3,sc k,st 4] from rfl,e5];exact ⟨vw hv hz hl _ _ (by simp) (by simp) rd0,by simp⟩
theorem again_run (hv : feedV n v es = 0) (h1 : 1 <= v) (hz : Tt.code z.data.toList = true) (hl : es.length <= 4) :
  runW ⟨z,SV n v es z,[],[⟨0,0,[]⟩]⟩ [st 2] = ((⟨z,SV n v es z,[⟨0,false,0,⟨#[]⟩⟩],[⟨0,0,[]⟩]⟩,[]),[0]) /\
  runW ⟨z,SV n v es z,[],[⟨0,0,[]⟩]⟩ [st 2,st 3] = ((⟨z,SV n v es z,[⟨0,true,tagV (SV n v es z) v,SV n v es z⟩],[⟨0,0,[]⟩]⟩,[]),[0,0]) /\
  runW ⟨z,SV n v es z,[],[⟨0,0,[]⟩]⟩ [st 2,st 3,st 4] = ((⟨z,SV n v es z,[],[⟨v,tagV (SV n v es z) v,es⟩]⟩,(mrg [] es).2.map (Nte.mk 0)),[0,0,0]):=by
 have e1 : runW ⟨z,SV n v es z,[],[⟨0,0,[]⟩]⟩ [st 2] = ((⟨z,SV n v es z,[⟨0,false,0,⟨#[]⟩⟩],[⟨0,0,[]⟩]⟩,[]),[0]):=by
  rw [show [st 2] = [] ++ [st 2] from rfl,runW_snoc,runW_nil,stepV_ok (do_ask hv hz hl _ rd0) rfl];rfl
 have e2 : runW ⟨z,SV n v es z,[],[⟨0,0,[]⟩]⟩ [st 2,st 3] = ((⟨z,SV n v es z,[⟨0,true,tagV (SV n v es z) v,SV n v es z⟩],[⟨0,0,[]⟩]⟩,[]),[0,0]):=by
  rw [show [st 2,st 3] = [st 2] ++ [st 3] from rfl,runW_snoc,e1,stepV_ok (do_serve hv hz hl _ rd0 _) rfl,if_neg (fun h => tag_ne (by omega) h.symm)];rfl
 refine ⟨e1,e2,?_⟩;rw [show [st 2,st 3,st 4] = [st 2,st 3] ++ [st 4] from rfl,runW_snoc,e2,stepV_ok (do_del hv h1 hz hl) rfl,mrg_self hv];rfl
theorem again_ok (hv : feedV n v es = 0) (h1 : 1 <= v) (hz : Tt.code z.data.toList = true) (hl : es.length <= 4) (i : Nat) (hi : i <= 3) : ValidW (runW ⟨z,SV n v es z,[],[⟨0,0,[]⟩]⟩ ([st 2,st 3,st 4].take i)).1.1 /\ (runW ⟨z,SV n v es z,[],[⟨0,0,[]⟩]⟩ ([st 2,st 3,st 4].take i)).1.2.length <= 1000000:=by
 obtain ⟨e1,e2,e3⟩:=again_run hv h1 hz hl;have hm:=(mrg_len [] es es.length (xh _)).2;rw [mrg_all] at hm;have hr:=rd1 hv hl;rw [mrg_self hv] at hr;have hi7 : i = 0 ∨ i = 1 ∨ i = 2 ∨ i = 3:=by omega
 rcases hi7 with rfl | rfl | rfl | rfl
 ·exact ⟨vw hv hz hl _ _ (by simp) (by simp) rd0,by show 0 <= 1000000;decide⟩
 ·rw [show [st 2,st 3,st 4].take 1 = [st 2] from rfl,e1];exact ⟨vw hv hz hl _ _ (by simp) (by simp [msgOk]) rd0,by simp⟩
 ·rw [show [st 2,st 3,st 4].take 2 = [st 2,st 3] from rfl,e2];exact ⟨vw hv hz hl _ _ (by simp) (by simp [msgOk]) rd0,by simp⟩
 ·rw [show [st 2,st 3,st 4].take 3 = [st 2,st 3,st 4] from rfl,e3];exact ⟨vw hv hz hl _ _ (by simp) (by simp) hr,by rw [xd];omega⟩
end
theorem one_map {xs : List RdX} {r : Rdr} (h : xs.map RdX.r = [r]) : ∃ x,xs = [x] /\ x.r = r:=by
 match xs,h with
 | [x],h => exact ⟨x,rfl,by simpa using h⟩
def sxc (k : Int) : StX:=⟨sc k,none,0⟩
theorem cl_take (n : ByteArray) (v : Int) (es : List Ev) (a : Option Addr) (c : Nat) (k : Int) (i : Nat) (hi : i <= 5) : ([sp n v es a c,sx 2,sx 3,sxc k,sx 4].take i).map StX.s = (cl n v es k).take i:=by
 have hi7 : i = 0 ∨ i = 1 ∨ i = 2 ∨ i = 3 ∨ i = 4 ∨ i = 5:=by omega
 rcases hi7 with rfl | rfl | rfl | rfl | rfl | rfl <;> rfl
theorem al_take (i : Nat) (hi : i <= 3) : ([sx 2,sx 3,sx 4].take i).map StX.s = [st 2,st 3,st 4].take i:=by
 have hi7 : i = 0 ∨ i = 1 ∨ i = 2 ∨ i = 3:=by omega
 rcases hi7 with rfl | rfl | rfl | rfl <;> rfl
theorem mk54_5 : ∀ w : World,(Instr.makeSlice 54 (.int .i64 5) (.int .i64 5)).run Tryz.prog w = .ok (.slice (some ⟨w.heap.size,0,none⟩) 5 5) (w.alloc (.cells #[.int .i64 0,.int .i64 0,.int .i64 0,.int .i64 0,.int .i64 0] 32)):=fun _ => by kernel_rfl
theorem mk54_3 : ∀ w : World,(Instr.makeSlice 54 (.int .i64 3) (.int .i64 3)).run Tryz.prog w = .ok (.slice (some ⟨w.heap.size,0,none⟩) 3 3) (w.alloc (.cells #[.int .i64 0,.int .i64 0,.int .i64 0] 32)):=fun _ => by kernel_rfl
theorem law6 (ao : Option Addr) (len cap : Nat) (nn : Int) (w : World) (hn : Nums w ao len) (hG : Glob w) : Calls Tryz.prog 6 #[.slice ao len cap,.int .i64 nn] w fun e w' => e = .returned (.bool true) /\ Below w.heap.size w w':=by
 have HN:=Lh hn;have HAW : Hid (∀ W,Below w.heap.size w W -> Calls Tryz.prog 11 #[] W fun e w' => e = .returned (.bool true) /\ Below W.heap.size W w'):=Lh (fun W hW => awake11 W (hG.made hW));have HG:=Lh hG;clear hn hG;by_cases hlen : (len : Int) <= 400
 rotate_left
 ·have hd1 : decide ((len : Int) <= 400) = false:=decide_eq_false hlen;go_enter Tryz.func6,Tryz.ntmps6;go_wp2_with (go_at_call 10;(with_reducible refine (light_any ao len cap _).mono ?_);rintro e w3 ⟨rfl,hw3⟩;rw [hw3,hd1];clear hw3 w3);refine (HAW.out _ (Below.refl w.heap.size w)).mono ?_;rintro e we ⟨rfl,hb⟩;have HE:=Lh (((Below.refl w.heap.size w)).trans (hb.mono ((Below.refl w.heap.size w)).size));clear hb;go_wp2_with fail;go_ret;exact ⟨rfl,HE.out⟩
 have hd1 : decide ((len : Int) <= 400) = true:=decide_eq_true hlen;go_enter Tryz.func6,Tryz.ntmps6;go_wp2_with (go_at_call 10;(with_reducible refine (light_any ao len cap _).mono ?_);rintro e w3 ⟨rfl,hw3⟩;rw [hw3,hd1];clear hw3 w3);have HLEN:=Lh hlen;clear hlen hd1;refine (roll_any ao len cap w (by have:=HLEN.out;omega) HN.out).mono ?_;rintro e w1 ⟨rfl,hd,hb,hsz⟩;obtain ⟨b,hbb⟩ : ∃ b,b = w.heap.size:=⟨_,rfl⟩
 rw [<- hbb] at hd hsz ⊢;have HL1:=Lh hb;have HD1:=Lh hd;have hwb : w.heap.size <= b:=by omega
 clear hd hb hbb hsz;go_wp2_with fail;refine (feed20v b w1 HD1.out).mono ?_;rintro e w2 ⟨n,v,pu,cu,ts,rfl, -,hv0,hv1,hl,hR, -,hcode,hu, -,hs⟩;have HFV:=Lh (feed_zero hcode hv0 hv1 hl hu);obtain ⟨es,hes⟩ : ∃ es,es = ts.map (·.1):=⟨_,rfl⟩
 have hel : es.length = ts.length:=by rw [hes,xd]
 rw [<- hes] at HFV;obtain ⟨ae,ce,hve,hEvs⟩:=hR.evs;rw [<- hes] at hEvs hve;rw [<- hel] at hve hl ⊢;simp only [Value.slice.injEq] at hve;obtain ⟨rfl, -,rfl⟩:=hve;have HEV:=Lh hEvs;have HL2:=Lh (HL1.out.trans (hs.below hwb HL1.out.size));have HV0:=Lh hv0;have HES:=Lh hl;clear hR hu hcode hs hl hEvs hes hel hv0 hv1 HD1 HL1;have HNW : Hid (∀ W,Calls Tryz.prog 13 #[.string ⟨#[99,97,109,112,117,115]⟩,.int .i64 1] W (Newed ⟨#[99,97,109,112,117,115]⟩ W)):=Lh (fun W => new13 _ code_c W);obtain ⟨F,hF⟩ : ∃ F,F = w2.heap.size:=⟨_,rfl⟩
 obtain ⟨X2,hX2⟩ : ∃ X,X = w2.alloc (.cells #[.string n,.int .i64 v,.slice pu es.length cu] 49):=⟨_,rfl⟩
 have hbX2 : Below w2.heap.size w2 X2:=by rw [hX2];exact below_box w2 _
 have HF2:=Lh (show Blk F #[.string n,.int .i64 v,.slice pu es.length cu] 49 X2 from by rw [hX2,hF];exact Blk.new w2 _ _);have HLX:=Lh (HL2.out.trans (hbX2.mono HL2.out.size));have HEX:=Lh ((HEV.out.below hbX2).mono hbX2.size);have HFM : Hid (Calls Tryz.prog 33 #[.agg #[.string n,.int .i64 v,.slice pu es.length cu],.string ⟨#[99,97,109,112,117,115]⟩] X2 fun e w' => e = .returned (.tuple #[.string (SV n v es ⟨#[99,97,109,112,117,115]⟩),.int .i64 0]) /\ Below X2.heap.size X2 w'):=Lh (by
  have h:=format48 n v pu cu es ⟨#[99,97,109,112,117,115]⟩ X2.heap.size X2 (xh _) HEX.out (by have:=HES.out;omega) (HG.out.made HLX.out).lens (HG.out.made HLX.out).pow (HG.out.made HLX.out).sz;rw [sv_form HFV.out code_c HES.out] at h;exact h)
 obtain ⟨SS,hSS⟩ : ∃ SS,SS = SV n v es ⟨#[99,97,109,112,117,115]⟩:=⟨_,rfl⟩
 have HSS:=Lh hSS;rw [<- hSS] at HFM;have hsz : SS.size = (feedT n.data.toList v es (⟨#[99,97,109,112,117,115]⟩ : ByteArray).data.toList).length:=by rw [hSS];exact size_mk _
 have HSZ:=Lh hsz;have hS0 : 0 < SS.size:=by
  rcases Nat.eq_zero_or_pos SS.size with h | h
  ·exfalso;refine sv_ne HFV.out code_c HES.out (hSS ▸ ?_);apply ByteArray.ext;exact Array.eq_empty_of_size_eq_zero h
  ·exact h
 have hS1 : ¬ ((SS.size : Int) = 0):=by omega
 have hS2 : (SS.size : Int) <= 262144:=by
  have:=feedT_small HFV.out code_c HES.out;omega
 clear hSS hsz;go_upto_region 4 with (fail);rw [<- hX2,<- hF];clear hX2 hF hbX2 HEV HL2;have f0 : X2.cell? ⟨F,0,none⟩ = some (.string n):=HF2.out.cell 0;have f1 : X2.cell? ⟨F,1,none⟩ = some (.int .i64 v):=HF2.out.cell 1;have f2 : X2.cell? ⟨F,2,none⟩ = some (.slice pu es.length cu):=HF2.out.cell 2;go_wp2_with fail;refine HFM.out.mono ?_;rintro e x3 ⟨rfl,hbx3⟩;have HFX3:=Lh (HF2.out.below hbx3 HF2.out.lt);have HEX3:=Lh ((HEX.out.below hbx3).mono hbx3.size);have HLX3:=Lh (HLX.out.trans (hbx3.mono HLX.out.size));clear hbx3 HF2 HEX HLX f0 f1 f2 HFM;go_upto_region 5 with (fail);go_wp2_with fail;refine (HNW.out _).mono ?_;rintro e w3 ⟨vr,rfl,hO3,hb3⟩;obtain ⟨aw1,cw1,ar1,cr1, -, -,e1,rfl, -,hWA1, -, -⟩:=hO3.wat;simp only [Value.slice.injEq] at e1;obtain ⟨rfl, -,rfl⟩:=e1;obtain ⟨k,hk⟩ : ∃ k,k = modI nn SS.size:=⟨_,rfl⟩
 have hk0 : 0 <= k:=by rw [hk];unfold modI;rw [if_neg (by omega)];exact Int.emod_nonneg _ (by omega)
 have hk1 : k < SS.size:=by rw [hk];unfold modI;rw [if_neg (by omega)];exact Int.emod_lt_of_pos _ (by omega)
 have HKT:=Lh (show k < (feedT n.data.toList v es (⟨#[99,97,109,112,117,115]⟩ : ByteArray).data.toList).length from by rw [<- HSZ.out];exact hk1);have HK0:=Lh hk0;obtain ⟨P,hP⟩ : ∃ P,P = w3.heap.size:=⟨_,rfl⟩
 obtain ⟨W1,hW1⟩ : ∃ W1,W1 = w3.alloc (.cells #[.string ⟨#[99,97,109,112,117,115]⟩,.string ⟨#[]⟩,.slice none 0 0,.slice ar1 1 cr1] 31):=⟨_,rfl⟩
 have HMD:=Lh (mod_any nn SS.size W1 (by omega));rw [<- hk] at HMD;obtain ⟨X,hX⟩ : ∃ X,X = W1.alloc (.cells (gC stF [sp n v es pu cu,sx 2,sx 3,sxc k,sx 4]).toArray 51):=⟨_,rfl⟩
 have hb2 : Below w3.heap.size w3 W1:=by rw [hW1];exact below_box w3 _
 have hbx : Below w3.heap.size w3 X:=by rw [hX];exact hb2.alloc hb2.size _
 have HL3:=Lh (HLX3.out.trans (hb3.mono HLX3.out.size));have HBX:=Lh (HL3.out.trans (hbx.mono HL3.out.size));have HFW:=Lh (((HFX3.out.below hb3 HFX3.out.lt).below hb2 (xc HFX3.out.lt hb3.size)));have HPX:=Lh (show Blk P #[.string ⟨#[99,97,109,112,117,115]⟩,.string ⟨#[]⟩,.slice none 0 0,.slice ar1 1 cr1] 31 W1 from by rw [hW1,hP];exact Blk.new w3 _ _);have HFY:=Lh (show Blk F #[.string n,.int .i64 v,.slice pu es.length cu] 49 X from by rw [hX];exact HFW.out.alloc _);have HEV:=Lh ((HEX3.out.below (hb3.trans (hbx.mono hb3.size))).mono (xf hb3.size hbx.size));have HSX:=Lh (Rd.blk (f:=stF) (xs:=[sp n v es pu cu,sx 2,sx 3,sxc k,sx 4]) (show Blk W1.heap.size _ 51 X from by rw [hX];exact Blk.new W1 _ _));have HRN:=Lh (run20 (newW ⟨#[99,97,109,112,117,115]⟩) [sp n v es pu cu,sx 2,sx 3,sxc k,sx 4] none ar1 (some ⟨W1.heap.size,0,none⟩) 0 cr1 5 _ X ((hWA1.below hbx).mono hbx.size) (HG.out.made HBX.out) HSX.out (fun x hx => by
   simp only [xb,xa,or_false] at hx;rcases hx with rfl | rfl | rfl | rfl | rfl
   ·exact HEV.out
   ·exact .inl rfl
   ·exact .inl rfl
   ·exact .inl rfl
   ·exact .inl rfl) (by show 5 <= 1000;decide)
  (fun i hi => by rw [cl_take n v es pu cu k i hi];exact (cut_ok HFV.out HV0.out code_c HES.out k HK0.out HKT.out i hi).1)
  (fun i hi => by rw [cl_take n v es pu cu k i hi];exact (cut_ok HFV.out HV0.out code_c HES.out k HK0.out HKT.out i hi).2)
  (notes_le (fun i hi => by rw [cl_take n v es pu cu k i hi];exact (cut_ok HFV.out HV0.out code_c HES.out k HK0.out HKT.out i hi).2))
  (fun x hx => by
   have:=HES.out;simp only [xb,xa,or_false] at hx;rcases hx with rfl | rfl | rfl | rfl | rfl <;> simp [sp,sx,sxc,sc,st,stP] <;> omega)
  (fun x hx => by
   simp only [xb,xa,or_false] at hx;rcases hx with rfl | rfl | rfl | rfl | rfl <;> (simp [sp,sx,sxc,sc,st,stP])))
 rw [show ([sp n v es pu cu,sx 2,sx 3,sxc k,sx 4].map StX.s) = [stP n v es,st 2,st 3,sc k,st 4] from rfl,(cut_run HFV.out HV0.out code_c HES.out k HK0.out HKT.out).2,<- HSS.out] at HRN;have p0 : W1.cell? ⟨P,0,none⟩ = some (.string ⟨#[99,97,109,112,117,115]⟩):=HPX.out.cell 0;have p1 : W1.cell? ⟨P,1,none⟩ = some (.string ⟨#[]⟩):=HPX.out.cell 1;have p2 : W1.cell? ⟨P,2,none⟩ = some (.slice none 0 0):=HPX.out.cell 2;have p3 : W1.cell? ⟨P,3,none⟩ = some (.slice ar1 1 cr1):=HPX.out.cell 3;have f0 : W1.cell? ⟨F,0,none⟩ = some (.string n):=HFW.out.cell 0;have f1 : W1.cell? ⟨F,1,none⟩ = some (.int .i64 v):=HFW.out.cell 1;have f2 : W1.cell? ⟨F,2,none⟩ = some (.slice pu es.length cu):=HFW.out.cell 2;unfold wldY;rw [show (newW ⟨#[99,97,109,112,117,115]⟩).zone = ⟨#[99,97,109,112,117,115]⟩ from rfl,show (newW ⟨#[99,97,109,112,117,115]⟩).cur = ⟨#[]⟩ from rfl,show (newW ⟨#[99,97,109,112,117,115]⟩).rds.length = 1 from rfl];go_upto_region 8 with (fail);rw [<- hW1];rw [<- hP];clear hW1 hb2 hbx hP hWA1 hO3 hb3 HNW hk;go_wp2_with fail;refine HMD.out.mono ?_;rintro e x4 ⟨rfl,rfl⟩;go_upto_region 9 with (fail);clear hS1 hS2;go_wp2_with fail;have hX' : x4.alloc (.cells #[.int .i64 1,.int .i64 0,.int .i64 0,.string n,.int .i64 v,.slice pu es.length cu,.int .i64 2,.int .i64 0,.int .i64 0,.string ⟨#[]⟩,.int .i64 0,.slice none 0 0,.int .i64 3,.int .i64 0,.int .i64 0,.string ⟨#[]⟩,.int .i64 0,.slice none 0 0,.int .i64 7,.int .i64 0,.int .i64 k,.string ⟨#[]⟩,.int .i64 0,.slice none 0 0,.int .i64 4,.int .i64 0,.int .i64 0,.string ⟨#[]⟩,.int .i64 0,.slice none 0 0] 51) = X:=by rw [hX];rfl
 rw [hX'];clear hX' hX;refine HRN.out.mono ?_;rintro e w5 ⟨vw5,vr5,vn5,xs5,ge,arr,rfl,hO5,hGE,hle,hcs,hb5⟩;obtain ⟨aw5,cw5,ar5,cr5,an5,cn5,rfl,rfl,rfl,hWA5, -, -⟩:=hO5.wat;obtain ⟨Q,hQ⟩ : ∃ Q,Q = w5.heap.size:=⟨_,rfl⟩
 obtain ⟨Y,hY⟩ : ∃ Y,Y = w5.alloc (.cells #[.string ⟨#[99,97,109,112,117,115]⟩,.string SS,.slice aw5 0 cw5,.slice ar5 1 cr5] 31):=⟨_,rfl⟩
 obtain ⟨U,hU⟩ : ∃ U,U = Y.alloc (.cells (gC stF [sx 2,sx 3,sx 4]).toArray 51):=⟨_,rfl⟩
 have hbY : Below w5.heap.size w5 Y:=by rw [hY];exact below_box w5 _
 have hbU : Below w5.heap.size w5 U:=by rw [hU];exact hbY.alloc hbY.size _
 have HQY:=Lh (show Blk Q #[.string ⟨#[99,97,109,112,117,115]⟩,.string SS,.slice aw5 0 cw5,.slice ar5 1 cr5] 31 Y from by rw [hY,hQ];exact Blk.new w5 _ _);have HQU:=Lh (show Blk Q #[.string ⟨#[99,97,109,112,117,115]⟩,.string SS,.slice aw5 0 cw5,.slice ar5 1 cr5] 31 U from by rw [hU];exact HQY.out.alloc _);have HGU:=Lh (hGE.below hbU hGE.lt);have HBU:=Lh (HBX.out.trans ((hb5.mono HBX.out.size).trans (hbU.mono (xf HBX.out.size hb5.size))));have HFU:=Lh ((HFY.out.below hb5 HFY.out.lt).below hbU (xc HFY.out.lt hb5.size));have HEU:=Lh ((HEV.out.below (hb5.trans (hbU.mono hb5.size))).mono (xf hb5.size hbU.size));have HWU:=Lh ((hWA5.below hbU).mono hbU.size);have HRU:=Lh (RdsAt.below hWA5.rds hbU);have HSU:=Lh (Rd.blk (f:=stF) (xs:=[sx 2,sx 3,sx 4]) (show Blk Y.heap.size _ 51 U from by rw [hU];exact Blk.new Y _ _));have ha:=fun i hi => again_ok (z:=⟨#[99,97,109,112,117,115]⟩) HFV.out HV0.out code_c HES.out i hi
 rw [<- HSS.out] at ha;have HRN2:=Lh (run20 (⟨⟨#[99,97,109,112,117,115]⟩,SS,[],[⟨0,0,[]⟩]⟩ : Wld) [sx 2,sx 3,sx 4] aw5 ar5 (some ⟨Y.heap.size,0,none⟩) cw5 cr5 3 _ U HWU.out (HG.out.made HBU.out) HSU.out (fun x hx => by
   simp only [xb,xa,or_false] at hx;rcases hx with rfl | rfl | rfl
   ·exact .inl rfl
   ·exact .inl rfl
   ·exact .inl rfl) (by show 3 <= 1000;decide)
  (fun i hi => by rw [al_take i hi];exact (ha i hi).1)
  (fun i hi => by rw [al_take i hi];exact (ha i hi).2)
  (notes_le (fun i hi => by rw [al_take i hi];exact (ha i hi).2))
  (fun x hx => by
   simp only [xb,xa,or_false] at hx;rcases hx with rfl | rfl | rfl <;> simp [sx,st])
  (fun x hx => by
   simp only [xb,xa,or_false] at hx;rcases hx with rfl | rfl | rfl <;> (simp [sx,st])))
 have hr2:=(again_run (z:=⟨#[99,97,109,112,117,115]⟩) HFV.out HV0.out code_c HES.out).2.2;rw [<- HSS.out] at hr2;rw [show ([sx 2,sx 3,sx 4].map StX.s) = [st 2,st 3,st 4] from rfl,hr2] at HRN2;have q0 : Y.cell? ⟨Q,0,none⟩ = some (.string ⟨#[99,97,109,112,117,115]⟩):=HQY.out.cell 0;have q1 : Y.cell? ⟨Q,1,none⟩ = some (.string SS):=HQY.out.cell 1;have q2 : Y.cell? ⟨Q,2,none⟩ = some (.slice aw5 0 cw5):=HQY.out.cell 2;have q3 : Y.cell? ⟨Q,3,none⟩ = some (.slice ar5 1 cr5):=HQY.out.cell 3;have HG5:=Lh hcs;clear ha hr2 p0 p1 p2 p3 f0 f1 f2 HPX HFW HFY HEV HSX hO5 hGE hle hcs hWA5 hbY hk0 hk1 hS0 HEX3;unfold wldY;dsimp only [xj,xk]
 go_upto_region 10 with (fail);rw [<- hY,<- hQ];clear hY hQ;go_wp2_with fail;have hU' : Y.alloc (.cells #[.int .i64 2,.int .i64 0,.int .i64 0,.string ⟨#[]⟩,.int .i64 0,.slice none 0 0,.int .i64 3,.int .i64 0,.int .i64 0,.string ⟨#[]⟩,.int .i64 0,.slice none 0 0,.int .i64 4,.int .i64 0,.int .i64 0,.string ⟨#[]⟩,.int .i64 0,.slice none 0 0] 51) = U:=by rw [hU];rfl
 rw [hU'];clear hU' hU hbU hb5;refine HRN2.out.mono ?_;rintro e w7 ⟨vw7,vr7,vn7,xs7,ge7,arr7,rfl,hO7,hGE7,hle7,hcs7,hb7⟩;obtain ⟨aw7,cw7,ar7,cr7,an7,cn7,rfl,rfl,rfl,hWA7, -, -⟩:=hO7.wat
 -- the single reader behind the first run
 have hx5 : ∃ x5,xs5 = [x5] /\ x5.v = 0 /\ x5.tag = 0 /\ x5.ts.length = 0:=by
  obtain ⟨x,hx,h1⟩:=one_map HWU.out.rmap;unfold RdX.r at h1;simp only [Rdr.mk.injEq] at h1;exact ⟨x,hx,h1.1,h1.2.1,by have:=congrArg List.length h1.2.2;simpa using this⟩
 obtain ⟨x5,rfl,hx5v,hx5t,hx5l⟩:=hx5;obtain ⟨tg,htg⟩ : ∃ tg,tg = tagV SS v:=⟨_,rfl⟩
 have hx7 : ∃ x7,xs7 = [x7] /\ x7.ts.map (·.1) = es:=by
  obtain ⟨x,hx,h1⟩:=one_map hWA7.rmap;unfold RdX.r at h1;simp only [Rdr.mk.injEq] at h1;exact ⟨x,hx,h1.2.2⟩
 obtain ⟨x7,rfl,hx7e⟩:=hx7;have hx7l : x7.ts.length = es.length:=by rw [<- hx7e,xd]
 obtain ⟨gr5,og5,har5,hgr5,hcr5⟩:=Rd.get rdF_len HWU.out.rds.row (show [x5][0]? = some x5 from rfl);obtain ⟨gr7,og7,har7,hgr7,hcr7⟩:=Rd.get rdF_len hWA7.rds.row (show [x7][0]? = some x7 from rfl);have HE7:=Lh ((hWA7.rds.seg x7 (xi.2 rfl)).evs);rw [hx7e] at HE7;subst har5 har7;obtain ⟨Q7,hQ7⟩ : ∃ Q7,Q7 = w7.heap.size:=⟨_,rfl⟩
 obtain ⟨V,hV⟩ : ∃ V,V = w7.alloc (.cells #[.string ⟨#[99,97,109,112,117,115]⟩,.string SS,.slice aw7 0 cw7,.slice (some ⟨gr7,og7,none⟩) 1 cr7] 31):=⟨_,rfl⟩
 have hbV : Below w7.heap.size w7 V:=by rw [hV];exact below_box w7 _
 have HQ7:=Lh (show Blk Q7 #[.string ⟨#[99,97,109,112,117,115]⟩,.string SS,.slice aw7 0 cw7,.slice (some ⟨gr7,og7,none⟩) 1 cr7] 31 V from by rw [hV,hQ7];exact Blk.new w7 _ _);have hUV : Below U.heap.size U V:=hb7.trans (hbV.mono hb7.size);have HQV:=Lh (HQU.out.below hUV HQU.out.lt);have HFV2:=Lh (HFU.out.below hUV HFU.out.lt);have HGV:=Lh (HGU.out.below hUV HGU.out.lt);have HG7:=Lh (hGE7.below hbV hGE7.lt);have HBV:=Lh (HBU.out.trans (hUV.mono HBU.out.size));have HEF:=Lh ((HEU.out.below hUV).mono hUV.size);have HEG:=Lh ((HE7.out.below hbV).mono hbV.size);have HKP : Hid (∀ W',Below V.heap.size V W' -> W'.cell? ⟨Q,3,none⟩ = some (.slice (some ⟨gr5,og5,none⟩) 1 cr5) /\ W'.cell? ⟨gr5,og5,none⟩ = some (.int .i64 0) /\ W'.cell? ⟨gr5,og5 + 1,none⟩ = some (.int .i64 0) /\ W'.cell? ⟨gr5,og5 + 2,none⟩ = some (.slice x5.ao 0 x5.c) /\ W'.cell? ⟨Q7,3,none⟩ = some (.slice (some ⟨gr7,og7,none⟩) 1 cr7) /\ W'.cell? ⟨gr7,og7 + 2,none⟩ = some (.slice x7.ao es.length x7.c) /\ W'.cell? ⟨F,2,none⟩ = some (.slice pu es.length cu)):=Lh (fun W' hW => by
  have hU2 : Below U.heap.size U W':=hUV.trans (hW.mono hUV.size);have hW2 : Below w7.heap.size w7 W':=hbV.trans (hW.mono hbV.size);refine ⟨(HQV.out.below hW HQV.out.lt).cell 3,(hU2.cell (p:=⟨gr5,og5,none⟩) hgr5).trans ?_,(hU2.cell (p:=⟨gr5,og5 + 1,none⟩) hgr5).trans ?_,(hU2.cell (p:=⟨gr5,og5 + 2,none⟩) hgr5).trans ?_,(HQ7.out.below hW HQ7.out.lt).cell 3,(hW2.cell (p:=⟨gr7,og7 + 2,none⟩) hgr7).trans ?_,(HFV2.out.below hW HFV2.out.lt).cell 2⟩
  ·have h:=hcr5 0 _ (by omega) rfl;rwa [xe,xg,hx5v] at h
  ·have h:=hcr5 1 _ (by omega) rfl;rwa [xe,xg,hx5t] at h
  ·have h:=hcr5 2 _ (by omega) rfl;rwa [xe,xg,hx5l] at h
  ·have h:=hcr7 2 _ (by omega) rfl;rwa [xe,xg,hx7l] at h)
 have HC5 : Hid (∀ (g : Nat) (q : World),Below V.heap.size V q -> Blk g #[.int .i64 0,.int .i64 0,.int .i64 0,.int .i64 0,.int .i64 0] 32 q -> Calls Tryz.prog 22 #[.slice (some ⟨ge,0,none⟩) 5 5,.slice (some ⟨g,0,none⟩) 5 5] q fun e w' => e = .returned (.bool true) /\ Below q.heap.size q w'):=Lh (fun g q hq hg => by
  have hge:=HGV.out.below hq HGV.out.lt;exact sameerr22 [0,0,0,0,0] [0,0,0,0,0] ge g 5 5 q (fun j c h => (hge.cell j).trans (HG5.out j c h)) (fun j c h => by
   rw [hg.cell];match j,h with
   | 0,h => cases h;rfl
   | 1,h => cases h;rfl
   | 2,h => cases h;rfl
   | 3,h => cases h;rfl
   | 4,h => cases h;rfl
   | j + 5,h => simp at h) ⟨hge.lt,hg.lt⟩ rfl (by decide) (fun c h => by simp at h;omega))
 have HC3 : Hid (∀ (g : Nat) (q : World),Below V.heap.size V q -> Blk g #[.int .i64 0,.int .i64 0,.int .i64 0] 32 q -> Calls Tryz.prog 22 #[.slice (some ⟨ge7,0,none⟩) 3 3,.slice (some ⟨g,0,none⟩) 3 3] q fun e w' => e = .returned (.bool true) /\ Below q.heap.size q w'):=Lh (fun g q hq hg => by
  have hge:=HG7.out.below hq HG7.out.lt;exact sameerr22 [0,0,0] [0,0,0] ge7 g 3 3 q (fun j c h => (hge.cell j).trans (hcs7 j c h)) (fun j c h => by
   rw [hg.cell];match j,h with
   | 0,h => cases h;rfl
   | 1,h => cases h;rfl
   | 2,h => cases h;rfl
   | j + 3,h => simp at h) ⟨hge.lt,hg.lt⟩ rfl (by decide) (fun c h => by simp at h;omega))
 have HC34 : Hid (∀ q : World,Calls Tryz.prog 34 #[.agg #[.int .i64 0,.int .i64 0,.slice x5.ao 0 x5.c],.agg #[.int .i64 0,.int .i64 0,.slice none 0 0]] q fun e w' => e = .returned (.bool true) /\ Below q.heap.size q w'):=Lh (fun q => by
  have h:=samerd28 0 0 0 0 [] [] x5.ao none x5.c 0 q.heap.size q (xh _) (.inl rfl) (.inl rfl) (by simp);simpa using h)
 have HC31 : Hid (∀ q : World,Below V.heap.size V q -> Calls Tryz.prog 31 #[.slice x7.ao es.length x7.c,.slice pu es.length cu] q fun e w' => e = .returned (.bool true) /\ Below q.heap.size q w'):=Lh (fun q hq => by
  have h:=sameevs65 es es x7.ao pu x7.c cu q.heap.size q (xh _) ((HEG.out.below hq).mono hq.size) ((HEF.out.below hq).mono hq.size) (by have:=HES.out;omega);simpa using h)
 have HC11 : Hid (∀ q : World,Below V.heap.size V q -> Calls Tryz.prog 11 #[] q fun e w' => e = .returned (.bool true) /\ Below q.heap.size q w'):=Lh (fun q hq => HAW.out q (HBV.out.trans (hq.mono HBV.out.size)));have hmk5:=mk54_5;have hmk3:=mk54_3;have HQL:=Lh (show Q < V.heap.size /\ gr5 < V.heap.size /\ Q7 < V.heap.size /\ gr7 < V.heap.size /\ F < V.heap.size /\ ge < V.heap.size from ⟨HQV.out.lt,xc hgr5 hUV.size,HQ7.out.lt,xc hgr7 hbV.size,HFV2.out.lt,HGV.out.lt⟩);clear hcr5 hcr7 hgr5 hgr7 hx5v hx5t hx5l hx7l hx7e hWA7 hO7 hGE7 hcs7 hle7 hb7 hbV hUV htg q0 q1 q2 q3;unfold wldY;dsimp only [xj,xk]
 go_upto_region 11 with (fail);rw [<- hV,<- hQ7];clear hV hQ7;go_region_held3 (fun W' => W'.cell? ⟨Q,3,none⟩ = some (.slice (some ⟨gr5,og5,none⟩) 1 cr5) /\ W'.cell? ⟨gr5,og5,none⟩ = some (.int .i64 0) /\ W'.cell? ⟨gr5,og5 + 1,none⟩ = some (.int .i64 0) /\ W'.cell? ⟨gr5,og5 + 2,none⟩ = some (.slice x5.ao 0 x5.c) /\ W'.cell? ⟨Q7,3,none⟩ = some (.slice (some ⟨gr7,og7,none⟩) 1 cr7) /\ W'.cell? ⟨gr7,og7 + 2,none⟩ = some (.slice x7.ao es.length x7.c) /\ W'.cell? ⟨F,2,none⟩ = some (.slice pu es.length cu)) (first | exact HKP.out _ (Below.refl _ _) | exact HKP.out _ (below_drw (Below.refl _ _)) | exact HKP.out _ (below_box _ _) | exact HKP.out _ (below_drw (below_box _ _)) | exact HKP.out _ hA | exact HKP.out _ (hB.alloc hB.size _) | exact HKP.out _ hB | exact HKP.out _ hC | exact HKP.out _ hD | exact HKP.out _ hE) (first | (go_at_call 22;(with_reducible refine (HC5.out V.heap.size _ (below_drw (below_box _ _)) (Blk.new _ _ _).draw).mono ?_);rintro e wA ⟨rfl,hA0⟩;have hA : Below V.heap.size V wA:=(below_drw (below_box V _)).trans (hA0.mono (by simp))) | (go_at_call 34;(with_reducible refine (HC34.out _).mono ?_);rintro e wB ⟨rfl,hB0⟩;have hB : Below V.heap.size V wB:=hA.trans (hB0.mono hA.size)) | (go_at_call 22;(with_reducible refine (HC3.out _ _ (hB.alloc hB.size _) (Blk.new _ _ _)).mono ?_);rintro e wC ⟨rfl,hC0⟩;have hC : Below V.heap.size V wC:=(hB.alloc hB.size _).trans (hC0.mono (by have:=hB.size;simp;omega))) | (go_at_call 31;(with_reducible refine (HC31.out _ hC).mono ?_);rintro e wD ⟨rfl,hD0⟩;have hD : Below V.heap.size V wD:=hC.trans (hD0.mono hC.size)) | (go_at_call 11;(with_reducible refine (HC11.out _ hD).mono ?_);rintro e wE ⟨rfl,hE0⟩;have hE : Below V.heap.size V wE:=hD.trans (hE0.mono hD.size)))
 all_goals
  have HE:=Lh (HBV.out.trans (hE.mono HBV.out.size));go_wp2_with fail;go_ret;exact ⟨rfl,HE.out⟩
end Go.Proofs.YtcomifbfldoeiaaGreatDoor
