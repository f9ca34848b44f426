/- Deliveries: the sanity check, and a drawn feed. Condition: none. DeliveryKnown: the law: true. Condition: none. -/
import Derived.Test.YtcomifbfldoeiaaGreatDoorQk30
set_option maxRecDepth 100000
set_option maxHeartbeats 40000000
namespace Go.Proofs.YtcomifbfldoeiaaGreatDoor
open Go.RowKit
theorem evs_zero (v : Int) : ∀ (es : List Ev) (k : Int) (p : Option ByteArray),0 <= k -> k + es.length <= 9 -> (∀ (i : Nat) (e : Ev),es[i]? = some e -> UidK (k + i) e.uid /\ checkV e v = 0) -> (∀ q,p = some q -> UidK (k - 1) q) -> evsV v p es = 0
 | [],_,_,_,_,_,_ => by unfold evsV;rfl
 | e :: r,k,p,hk,hl,h,hp => by
  obtain ⟨h1,h2⟩:=h 0 e rfl;have h1 : UidK k e.uid:=by simpa using h1
  refine (evsV_cons v p e r).2 ⟨h1.right hk (by simp at hl;omega),?_,h2,evs_zero v r (k + 1) (some e.uid) (by omega) (by simp at hl;omega) (fun i x hx => ?_) (fun q hq => by cases hq;rw [show k + 1 - 1 = k by omega];exact h1)⟩
  ·cases p with
   | none => rfl
   | some q => exact (hp q rfl).late (by rw [show k - 1 + 1 = k by omega];exact h1)
  ·have:=h (i + 1) x hx;rw [show k + 1 + (i : Int) = k + ((i + 1 : Nat) : Int) by omega];exact this
theorem feed_zero {n : ByteArray} {v : Int} {ts : List (Ev × Value × Value)} (hn : Tt.code n.data.toList = true) (h0 : 1 <= v) (h1 : v <= 6) (hl : ts.length <= 4) (h : ∀ (i : Nat) (t : Ev × Value × Value),ts[i]? = some t -> UidK i t.1.uid /\ checkV t.1 v = 0) : feedV n v (ts.map (·.1)) = 0:=by
 unfold feedV;rw [if_neg (by simp [hn]),if_neg (by omega),if_neg (by rw [List.length_map];omega)];refine evs_zero v _ 0 none (by omega) (by rw [List.length_map];omega) (fun i e he => ?_) (fun q hq => by cases hq);rw [List.getElem?_map] at he;obtain ⟨t,ht,rfl⟩:=Option.map_eq_some_iff.1 he;rw [Int.zero_add];exact h i t ht
theorem feed0 : feedV ⟨#[120]⟩ 1 [e0] = 0:=by kernel_rfl
theorem mrg0 : mrg [] [e0] = ([e0],[⟨1,e0.uid,1⟩]):=by kernel_rfl
theorem evb0 : EvB e0:=⟨by decide,by decide,by decide,by decide,by decide⟩
def sx (k : Int) : StX:=⟨st k,none,0⟩
def sp (n : ByteArray) (v : Int) (es : List Ev) (a : Option Addr) (c : Nat) : StX:=⟨stP n v es,a,c⟩
theorem code_z : Tt.code (⟨#[122]⟩ : ByteArray).data.toList = true:=by decide
theorem code_c : Tt.code (⟨#[99,97,109,112,117,115]⟩ : ByteArray).data.toList = true:=by decide
theorem Rd.blk {α : Type} {f : α -> List Value} {g : Nat} {ty : TypeId} {w : World} {xs : List α} (h : Blk g (gC f xs).toArray ty w) : Rd f w.heap.size w (some ⟨g,0,none⟩) xs :=
 .inr ⟨g,0,rfl,h.lt,fun j u hj => by rw [Nat.zero_add,h.cell];simpa using hj⟩
theorem doV_bad {W : Wld} {s : Stp} (h : (doV W s).2 ≠ 0) : (doV W s).1.2 = []:=by
 unfold doV at h ⊢;split
 ·rfl
 ·split
  ·rfl
  ·split
   ·rfl
   ·rename_i h1 h2 h3
    rw [if_neg h1,if_neg h2,if_neg h3] at h;exact absurd h h3
theorem notes_le {W : Wld} {zs : List StX} {k : Nat} (hnl : ∀ i,i <= zs.length -> (runW W ((zs.take i).map StX.s)).1.2.length <= k) : ∀ i x,zs[i]? = some x -> (doV (runW W ((zs.take i).map StX.s)).1.1 x.s).1.2.length <= k:=fun i x hx => by
 obtain ⟨h1,h2⟩:=List.getElem?_eq_some_iff.1 hx;have h:=hnl (i + 1) h1;rw [List.take_succ_eq_append_getElem h1,h2,List.map_append,List.map_cons,List.map_nil,runW_snoc] at h;unfold stepV at h;split at h
 ·simp only [List.length_append] at h;omega
 ·rename_i hb
  rw [doV_bad hb];exact Nat.zero_le _
section
variable {n z : ByteArray} {v : Int} {es : List Ev}
def kl (n : ByteArray) (v : Int) (es : List Ev) : List Stp:=[stP n v es,st 2,st 3,st 4,st 2,st 3]
theorem known_ok (hv : feedV n v es = 0) (h1 : 1 <= v) (hz : Tt.code z.data.toList = true) (hl : es.length <= 4) (i : Nat) (hi : i <= 6) : ValidW (runW (newW z) ((kl n v es).take i)).1.1 /\ (runW (newW z) ((kl n v es).take i)).1.2.length <= 1000000:=by
 obtain ⟨e1,e2,e3,e4,e5,e6⟩:=known_run hv h1 hz hl;have hr:=rd1 hv hl;have hm:=(mrg_len [] es es.length (Nat.le_refl _)).2;rw [mrg_all] at hm;have hn : ((mrg [] es).2.map (Nte.mk 0)).length <= 1000000:=by rw [List.length_map];omega
 have hi7 : i = 0 ∨ i = 1 ∨ i = 2 ∨ i = 3 ∨ i = 4 ∨ i = 5 ∨ i = 6:=by omega
 rcases hi7 with rfl | rfl | rfl | rfl | rfl | rfl | rfl
 ·exact ⟨vw0 hz,by show 0 <= 1000000;decide⟩
 ·rw [show (kl n v es).take 1 = [stP n v es] from rfl,e1];exact ⟨vw hv hz hl _ _ (by simp) (by simp) rd0,by simp⟩
 ·rw [show (kl n v es).take 2 = [stP n v es,st 2] from rfl,e2];exact ⟨vw hv hz hl _ _ (by simp) (by simp [msgOk]) rd0,by simp⟩
 ·rw [show (kl n v es).take 3 = [stP n v es,st 2,st 3] from rfl,e3];exact ⟨vw hv hz hl _ _ (by simp) (by simp [msgOk]) rd0,by simp⟩
 ·rw [show (kl n v es).take 4 = [stP n v es,st 2,st 3,st 4] from rfl,e4];exact ⟨vw hv hz hl _ _ (by simp) (by simp) hr,hn⟩
 ·rw [show (kl n v es).take 5 = [stP n v es,st 2,st 3,st 4,st 2] from rfl,e5];exact ⟨vw hv hz hl _ _ (by simp) (by simp [msgOk]) hr,hn⟩
 ·rw [show (kl n v es).take 6 = [stP n v es,st 2,st 3,st 4,st 2,st 3] from rfl,e6];exact ⟨vw hv hz hl _ _ (by simp) (by simp [msgOk]) hr,hn⟩
end
theorem awake11 (w : World) (hG : Glob w) : Calls Tryz.prog 11 #[] w fun e w' => e = .returned (.bool true) /\ Below w.heap.size w w':=by
 have HG:=Lh hG;have HNW:=Lh (new13 ⟨#[122]⟩ code_z w);clear hG;go_enter Tryz.func11,Tryz.ntmps11;go_wp2_with fail;refine HNW.out.mono ?_;rintro e w1 ⟨vr,rfl,hO1,hb1⟩;obtain ⟨aw1,cw1,ar1,cr1, -, -,e1,rfl, -,hWA1, -, -⟩:=hO1.wat;simp only [Value.slice.injEq] at e1;obtain ⟨rfl, -,rfl⟩:=e1;obtain ⟨P,hP⟩ : ∃ P,P = w1.heap.size:=⟨_,rfl⟩
 obtain ⟨A,hA⟩ : ∃ A,A = w1.heap.size + 1:=⟨_,rfl⟩
 obtain ⟨W1,hW1⟩ : ∃ W1,W1 = ((w1.alloc (.cells #[.string ⟨#[122]⟩,.string ⟨#[]⟩,.slice none 0 0,.slice ar1 1 cr1] 31)).alloc (.cells #[.string ⟨#[99,64,49]⟩,.int .i64 1,.bool false,.int .i64 2,.int .i64 2,.int .i64 1,.int .i64 1,.slice none 0 0,.slice none 0 0,.int .i64 0,.int .i64 45,.string ⟨#[99]⟩,.string ⟨#[]⟩] 104)).alloc (.cells #[.string ⟨#[120]⟩,.int .i64 1,.slice (some ⟨w1.heap.size + 1,0,none⟩) 1 1] 49):=⟨_,rfl⟩
 obtain ⟨X,hX⟩ : ∃ X,X = W1.alloc (.cells (gC stF [sp ⟨#[120]⟩ 1 [e0] (some ⟨A,0,none⟩) 1,sx 2,sx 3,sx 4]).toArray 51):=⟨_,rfl⟩
 have hs1 : W1.heap.size = w1.heap.size + 3:=by rw [hW1];simp
 have hb2 : Below w1.heap.size w1 W1:=by rw [hW1];exact ((below_box w1 _).alloc (by simp) _).alloc (by simp;omega) _
 have hb3 : Below w1.heap.size w1 X:=by rw [hX];exact hb2.alloc hb2.size _
 have HBX:=Lh (hb1.trans (hb3.mono hb1.size));have HPX:=Lh (show Blk P #[.string ⟨#[122]⟩,.string ⟨#[]⟩,.slice none 0 0,.slice ar1 1 cr1] 31 W1 from by rw [hW1,hP];exact ((Blk.new w1 _ _).alloc _).alloc _);have HEX:=Lh (show Blk A (evCells e0 (.slice none 0 0) (.slice none 0 0)) 104 X from by rw [hX,hW1,hA];exact ((Blk.new' (g:=w1.heap.size + 1) _ _ _ (by simp)).alloc _).alloc _);have HFX:=Lh (show Blk (A + 1) #[.string ⟨#[120]⟩,.int .i64 1,.slice (some ⟨A,0,none⟩) 1 1] 49 W1 from by rw [hW1,hA];exact Blk.new' (g:=w1.heap.size + 1 + 1) _ _ _ (by simp));have HSX:=Lh (Rd.blk (f:=stF) (xs:=[sp ⟨#[120]⟩ 1 [e0] (some ⟨A,0,none⟩) 1,sx 2,sx 3,sx 4]) (show Blk W1.heap.size _ 51 X from by rw [hX];exact Blk.new W1 _ _));have HSg:=Lh (show Seg X.heap.size X (some ⟨A,0,none⟩) [(e0,.slice none 0 0,.slice none 0 0)] from ⟨.inr ⟨A,0,rfl,HEX.out.lt,fun j u hj => by
  rw [tCells_sole] at hj;rw [Nat.zero_add,HEX.out.cell];simpa using hj⟩,fun t ht => by
  rw [List.mem_singleton.1 ht];exact ⟨evb0,⟨none,0,rfl,fun j x h => by simp [e0] at h⟩,⟨none,0,rfl,fun j x h => by simp [e0] at h⟩⟩⟩)
 have HRN:=Lh (run20 (newW ⟨#[122]⟩) [sp ⟨#[120]⟩ 1 [e0] (some ⟨A,0,none⟩) 1,sx 2,sx 3,sx 4] none ar1 (some ⟨W1.heap.size,0,none⟩) 0 cr1 4 _ X ((hWA1.below hb3).mono hb3.size) (HG.out.made HBX.out) HSX.out (fun x hx => by
   simp only [List.mem_cons,List.not_mem_nil,or_false] at hx;rcases hx with rfl | rfl | rfl | rfl
   ·exact HSg.out.evs
   ·exact .inl rfl
   ·exact .inl rfl
   ·exact .inl rfl) (by show 4 <= 1000;decide)
  (fun i hi => by
   have hi4 : i <= 4:=hi;have h:=(known_ok (z:=⟨#[122]⟩) feed0 (by decide) code_z (by decide) i (by omega)).1;have e : ([sp ⟨#[120]⟩ 1 [e0] (some ⟨A,0,none⟩) 1,sx 2,sx 3,sx 4].take i).map StX.s = (kl ⟨#[120]⟩ 1 [e0]).take i:=by
    have hi5 : i = 0 ∨ i = 1 ∨ i = 2 ∨ i = 3 ∨ i = 4:=by omega
    rcases hi5 with rfl | rfl | rfl | rfl | rfl <;> rfl
   rw [e];exact h)
  (fun i hi => by
   have hi4 : i <= 4:=hi;have h:=(known_ok (z:=⟨#[122]⟩) feed0 (by decide) code_z (by decide) i (by omega)).2;have e : ([sp ⟨#[120]⟩ 1 [e0] (some ⟨A,0,none⟩) 1,sx 2,sx 3,sx 4].take i).map StX.s = (kl ⟨#[120]⟩ 1 [e0]).take i:=by
    have hi5 : i = 0 ∨ i = 1 ∨ i = 2 ∨ i = 3 ∨ i = 4:=by omega
    rcases hi5 with rfl | rfl | rfl | rfl | rfl <;> rfl
   rw [e];exact h)
  (notes_le (fun i hi => by
   have hi4 : i <= 4:=hi;have h:=(known_ok (z:=⟨#[122]⟩) feed0 (by decide) code_z (by decide) i (by omega)).2;have e : ([sp ⟨#[120]⟩ 1 [e0] (some ⟨A,0,none⟩) 1,sx 2,sx 3,sx 4].take i).map StX.s = (kl ⟨#[120]⟩ 1 [e0]).take i:=by
    have hi5 : i = 0 ∨ i = 1 ∨ i = 2 ∨ i = 3 ∨ i = 4:=by omega
    rcases hi5 with rfl | rfl | rfl | rfl | rfl <;> rfl
   rw [e];exact h))
  (fun x hx => by
   simp only [List.mem_cons,List.not_mem_nil,or_false] at hx;rcases hx with rfl | rfl | rfl | rfl <;> simp [sp,sx,st,stP])
  (fun x hx => by
   simp only [List.mem_cons,List.not_mem_nil,or_false] at hx;rcases hx with rfl | rfl | rfl | rfl <;> (simp [sp,sx,st,stP])))
 rw [show ([sp ⟨#[120]⟩ 1 [e0] (some ⟨A,0,none⟩) 1,sx 2,sx 3,sx 4].map StX.s) = [stP ⟨#[120]⟩ 1 [e0],st 2,st 3,st 4] from rfl,(known_run (z:=⟨#[122]⟩) feed0 (by decide) code_z (by decide)).2.2.2.1,mrg0] at HRN;have p0 : W1.cell? ⟨P,0,none⟩ = some (.string ⟨#[122]⟩):=HPX.out.cell 0;have p1 : W1.cell? ⟨P,1,none⟩ = some (.string ⟨#[]⟩):=HPX.out.cell 1;have p2 : W1.cell? ⟨P,2,none⟩ = some (.slice none 0 0):=HPX.out.cell 2;have p3 : W1.cell? ⟨P,3,none⟩ = some (.slice ar1 1 cr1):=HPX.out.cell 3;have f0 : W1.cell? ⟨A + 1,0,none⟩ = some (.string ⟨#[120]⟩):=HFX.out.cell 0;have f1 : W1.cell? ⟨A + 1,1,none⟩ = some (.int .i64 1):=HFX.out.cell 1;have f2 : W1.cell? ⟨A + 1,2,none⟩ = some (.slice (some ⟨A,0,none⟩) 1 1):=HFX.out.cell 2;unfold wldY;rw [show (newW ⟨#[122]⟩).zone = ⟨#[122]⟩ from rfl,show (newW ⟨#[122]⟩).cur = ⟨#[]⟩ from rfl,show (newW ⟨#[122]⟩).rds.length = 1 from rfl];go_upto_region 3 with (fail);rw [<- hW1];rw [<- hA,<- hP];clear hW1 hb2 hb3 hs1 hP hA hWA1;go_wp2_with fail;show Calls Tryz.prog 20 _ (W1.alloc (.cells (gC stF [sp ⟨#[120]⟩ 1 [e0] (some ⟨A,0,none⟩) 1,sx 2,sx 3,sx 4]).toArray 51)) _
 rw [<- hX];refine HRN.out.mono ?_;rintro e w5 ⟨vw5,vr5,vn5,xs5,ge,arr,rfl,hO5,hGE,hle,hcs,hb5⟩;obtain ⟨aw5,cw5,ar5,cr5,an5,cn5,rfl,rfl,rfl,hWA5,hRN5, -⟩:=hO5.wat;have hxl : ∃ x,xs5 = [x] /\ x.ts.length = 1:=by
  have h:=hO5.rmap;match xs5,h with
  | [x],h => exact ⟨x,rfl,by simpa [RdX.r] using congrArg (fun l => (l.map (fun r => r.es.length))) h⟩
 obtain ⟨x,rfl,hx1⟩:=hxl;obtain ⟨gr,og,hag,hgr,hcr⟩:=Rd.get rdF_len hWA5.rds.row (show [x][0]? = some x from rfl);obtain ⟨gn,on,han,hgn,hcn⟩:=Rd.get nteF_len hRN5 (show ([Nte.mk 0 ⟨1,e0.uid,1⟩] : List Nte)[0]? = some (Nte.mk 0 ⟨1,e0.uid,1⟩) from rfl);subst hag han;obtain ⟨Q,hQ⟩ : ∃ Q,Q = w5.heap.size:=⟨_,rfl⟩
 obtain ⟨Z,hZ⟩ : ∃ Z,Z = w5.alloc (.cells #[.string ⟨#[122]⟩,.string (SV ⟨#[120]⟩ 1 [e0] ⟨#[122]⟩),.slice aw5 0 cw5,.slice (some ⟨gr,og,none⟩) 1 cr5] 31):=⟨_,rfl⟩
 have hbZ : Below w5.heap.size w5 Z:=by rw [hZ];exact below_box w5 _
 have HQZ:=Lh (show Blk Q #[.string ⟨#[122]⟩,.string (SV ⟨#[120]⟩ 1 [e0] ⟨#[122]⟩),.slice aw5 0 cw5,.slice (some ⟨gr,og,none⟩) 1 cr5] 31 Z from by rw [hZ,hQ];exact Blk.new w5 _ _);have HGZ:=Lh (hGE.below hbZ hGE.lt);have hmk4 : ∀ w : World,(Instr.makeSlice 54 (.int .i64 4) (.int .i64 4)).run Tryz.prog w = .ok (.slice (some ⟨w.heap.size,0,none⟩) 4 4) (w.alloc (.cells #[.int .i64 0,.int .i64 0,.int .i64 0,.int .i64 0] 32)):=fun _ => by kernel_rfl
 obtain ⟨V,hV⟩ : ∃ V,V = Z.alloc (.cells #[.int .i64 0,.int .i64 0,.int .i64 0,.int .i64 0] 32):=⟨_,rfl⟩
 have hbV : Below Z.heap.size Z V:=by rw [hV];exact below_box Z _
 have HBV:=Lh (HBX.out.trans ((hb5.mono HBX.out.size).trans ((hbZ.mono (Nat.le_trans HBX.out.size hb5.size)).trans (hbV.mono (Nat.le_trans HBX.out.size (Nat.le_trans hb5.size hbZ.size))))));have HQV:=Lh (HQZ.out.below hbV HQZ.out.lt);have HGV:=Lh (HGZ.out.below hbV HGZ.out.lt);have HSE:=Lh (sameerr22 [0,0,0,0] [0,0,0,0] ge Z.heap.size 4 4 V (fun j c h => (HGV.out.cell j).trans (hcs j c h)) (fun j c h => by
  rw [(show Blk Z.heap.size #[.int .i64 0,.int .i64 0,.int .i64 0,.int .i64 0] 32 V from by rw [hV];exact Blk.new Z _ _).cell];match j,h with
  | 0,h => cases h;rfl
  | 1,h => cases h;rfl
  | 2,h => cases h;rfl
  | 3,h => cases h;rfl
  | j + 4,h => simp at h) ⟨HGV.out.lt,by rw [hV];simp⟩ rfl (by decide) (fun c h => by simp at h;omega))
 have hb5V : Below w5.heap.size w5 V:=hbZ.trans (hbV.mono hbZ.size);have n1 : V.cell? ⟨gn,on + 1,none⟩ = some (.int .i64 1):=(hb5V.cell (p:=⟨gn,on + 1,none⟩) hgn).trans (by have h:=hcn 1 _ (by omega) rfl;rwa [Nat.zero_mul,Nat.add_zero] at h);have r2 : V.cell? ⟨gr,og + 2,none⟩ = some (.slice x.ao 1 x.c):=(hb5V.cell (p:=⟨gr,og + 2,none⟩) hgr).trans (by have h:=hcr 2 _ (by omega) rfl;rw [Nat.zero_mul,Nat.add_zero] at h;rw [h,hx1]);have hgnV : gn < V.heap.size:=Nat.lt_of_lt_of_le hgn hb5V.size;have hgrV : gr < V.heap.size:=Nat.lt_of_lt_of_le hgr hb5V.size;have HN1:=Lh n1;have HR2:=Lh r2;have HGN:=Lh hgnV;have HGR:=Lh hgrV;clear n1 r2 hgnV hgrV hgn hgr hcn hcr hWA5 hRN5 hO5 hGE hcs hb5 hb5V hbV hbZ hx1 hle p0 p1 p2 p3 f0 f1 f2 HPX HFX hX HEX HSg HSX;rw [show decide (([0,0,0,0] : List Int) = [0,0,0,0]) = true from rfl] at HSE;unfold wldY;go_upto_region 4 with (fail);rw [<- hZ,<- hQ];have hvs : V.heap.size = Z.heap.size + 1:=by rw [hV];simp
 clear hZ hQ;go_wp2_with fail;rw [<- hV];clear hV hvs;refine HSE.out.mono ?_;rintro e w6 ⟨rfl,hb6⟩;have HQ6:=Lh (HQV.out.below hb6 HQV.out.lt);have n1 : w6.cell? ⟨gn,on + 1,none⟩ = some (.int .i64 1):=(hb6.cell (p:=⟨gn,on + 1,none⟩) HGN.out).trans HN1.out;have r2 : w6.cell? ⟨gr,og + 2,none⟩ = some (.slice x.ao 1 x.c):=(hb6.cell (p:=⟨gr,og + 2,none⟩) HGR.out).trans HR2.out;have q2 : w6.cell? ⟨Q,2,none⟩ = some (.slice aw5 0 cw5):=HQ6.out.cell 2;have q3 : w6.cell? ⟨Q,3,none⟩ = some (.slice (some ⟨gr,og,none⟩) 1 cr5):=HQ6.out.cell 3;have HB6:=Lh (HBV.out.trans (hb6.mono HBV.out.size));clear hb6;go_wp2_with fail;go_ret;exact ⟨rfl,HB6.out⟩
theorem kl_take (n : ByteArray) (v : Int) (es : List Ev) (a : Option Addr) (c : Nat) (i : Nat) (hi : i <= 6) : ([sp n v es a c,sx 2,sx 3,sx 4,sx 2,sx 3].take i).map StX.s = (kl n v es).take i:=by
 have hi7 : i = 0 ∨ i = 1 ∨ i = 2 ∨ i = 3 ∨ i = 4 ∨ i = 5 ∨ i = 6:=by omega
 rcases hi7 with rfl | rfl | rfl | rfl | rfl | rfl | rfl <;> rfl
theorem mk54_6 : ∀ w : World,(Instr.makeSlice 54 (.int .i64 6) (.int .i64 6)).run Tryz.prog w = .ok (.slice (some ⟨w.heap.size,0,none⟩) 6 6) (w.alloc (.cells #[.int .i64 0,.int .i64 0,.int .i64 0,.int .i64 0,.int .i64 0,.int .i64 0] 32)):=fun _ => by kernel_rfl
theorem law7 (ao : Option Addr) (len cap : Nat) (w : World) (hn : Nums w ao len) (hG : Glob w) : Calls Tryz.prog 7 #[.slice ao len cap] w fun e w' => e = .returned (.bool true) /\ Below w.heap.size w w':=by
 have HN:=Lh hn;have HAW : Hid (∀ W,Below w.heap.size w W -> Calls Tryz.prog 11 #[] W fun e w' => e = .returned (.bool true) /\ Below W.heap.size W w'):=Lh (fun W hW => awake11 W (hG.made hW));have HG:=Lh hG;clear hn hG;by_cases hlen : (len : Int) <= 400
 rotate_left
 ·have hd1 : decide ((len : Int) <= 400) = false:=decide_eq_false hlen;go_enter Tryz.func7,Tryz.ntmps7;go_wp2_with (go_at_call 10;(with_reducible refine (light_any ao len cap _).mono ?_);rintro e w3 ⟨rfl,hw3⟩;rw [hw3,hd1];clear hw3 w3);refine (HAW.out _ (Below.refl w.heap.size w)).mono ?_;rintro e we ⟨rfl,hb⟩;have HE:=Lh (((Below.refl w.heap.size w)).trans (hb.mono ((Below.refl w.heap.size w)).size));clear hb;go_wp2_with fail;go_ret;exact ⟨rfl,HE.out⟩
 have hd1 : decide ((len : Int) <= 400) = true:=decide_eq_true hlen;go_enter Tryz.func7,Tryz.ntmps7;go_wp2_with (go_at_call 10;(with_reducible refine (light_any ao len cap _).mono ?_);rintro e w3 ⟨rfl,hw3⟩;rw [hw3,hd1];clear hw3 w3);have HLEN:=Lh hlen;clear hlen hd1;refine (roll_any ao len cap w (by have:=HLEN.out;omega) HN.out).mono ?_;rintro e w1 ⟨rfl,hd,hb,hsz⟩;obtain ⟨b,hbb⟩ : ∃ b,b = w.heap.size:=⟨_,rfl⟩
 rw [<- hbb] at hd hsz ⊢;have HL1:=Lh hb;have HD1:=Lh hd;have hwb : w.heap.size <= b:=by omega
 clear hd hb hbb hsz;go_wp2_with fail;refine (feed20v b w1 HD1.out).mono ?_;rintro e w2 ⟨n,v,pu,cu,ts,rfl, -,hv0,hv1,hl,hR, -,hcode,hu, -,hs⟩;have HFV:=Lh (feed_zero hcode hv0 hv1 hl hu);obtain ⟨es,hes⟩ : ∃ es,es = ts.map (·.1):=⟨_,rfl⟩
 have hel : es.length = ts.length:=by rw [hes,List.length_map]
 rw [<- hes] at HFV;obtain ⟨ae,ce,hve,hEvs⟩:=hR.evs;rw [<- hes] at hEvs hve;rw [<- hel] at hve hl ⊢;simp only [Value.slice.injEq] at hve;obtain ⟨rfl, -,rfl⟩:=hve;have HEV:=Lh hEvs;have HL2:=Lh (HL1.out.trans (hs.below hwb HL1.out.size));have HV0:=Lh hv0;have HES:=Lh hl;clear hR hu hcode hs hl hEvs hes hel hv0 hv1 HD1 HL1;have HNW : Hid (∀ W,Calls Tryz.prog 13 #[.string ⟨#[99,97,109,112,117,115]⟩,.int .i64 1] W (Newed ⟨#[99,97,109,112,117,115]⟩ W)):=Lh (fun W => new13 _ code_c W);obtain ⟨F,hF⟩ : ∃ F,F = w2.heap.size:=⟨_,rfl⟩
 obtain ⟨X2,hX2⟩ : ∃ X,X = w2.alloc (.cells #[.string n,.int .i64 v,.slice pu es.length cu] 49):=⟨_,rfl⟩
 have hbX2 : Below w2.heap.size w2 X2:=by rw [hX2];exact below_box w2 _
 have HF2:=Lh (show Blk F #[.string n,.int .i64 v,.slice pu es.length cu] 49 X2 from by rw [hX2,hF];exact Blk.new w2 _ _);have HLX:=Lh (HL2.out.trans (hbX2.mono HL2.out.size));have HEX:=Lh ((HEV.out.below hbX2).mono hbX2.size);go_upto_region 4 with (fail);rw [<- hX2,<- hF];clear hX2 hF hbX2 HEV HL2;go_wp2_with fail;refine (HNW.out _).mono ?_;rintro e w3 ⟨vr,rfl,hO3,hb3⟩;obtain ⟨aw1,cw1,ar1,cr1, -, -,e1,rfl, -,hWA1, -, -⟩:=hO3.wat;simp only [Value.slice.injEq] at e1;obtain ⟨rfl, -,rfl⟩:=e1;obtain ⟨P,hP⟩ : ∃ P,P = w3.heap.size:=⟨_,rfl⟩
 obtain ⟨W1,hW1⟩ : ∃ W1,W1 = w3.alloc (.cells #[.string ⟨#[99,97,109,112,117,115]⟩,.string ⟨#[]⟩,.slice none 0 0,.slice ar1 1 cr1] 31):=⟨_,rfl⟩
 obtain ⟨X,hX⟩ : ∃ X,X = W1.alloc (.cells (gC stF [sp n v es pu cu,sx 2,sx 3,sx 4,sx 2,sx 3]).toArray 51):=⟨_,rfl⟩
 have hs1 : W1.heap.size = w3.heap.size + 1:=by rw [hW1];simp
 have hb2 : Below w3.heap.size w3 W1:=by rw [hW1];exact below_box w3 _
 have hbx : Below w3.heap.size w3 X:=by rw [hX];exact hb2.alloc hb2.size _
 have HL3:=Lh (HLX.out.trans (hb3.mono HLX.out.size));have HBX:=Lh (HL3.out.trans (hbx.mono HL3.out.size));have HFW:=Lh (((HF2.out.below hb3 HF2.out.lt).below hb2 (Nat.lt_of_lt_of_le HF2.out.lt hb3.size)));have HPX:=Lh (show Blk P #[.string ⟨#[99,97,109,112,117,115]⟩,.string ⟨#[]⟩,.slice none 0 0,.slice ar1 1 cr1] 31 W1 from by rw [hW1,hP];exact Blk.new w3 _ _);have HPY:=Lh (show Blk P #[.string ⟨#[99,97,109,112,117,115]⟩,.string ⟨#[]⟩,.slice none 0 0,.slice ar1 1 cr1] 31 X from by rw [hX];exact HPX.out.alloc _);have HEV:=Lh ((HEX.out.below (hb3.trans (hbx.mono hb3.size))).mono (Nat.le_trans hb3.size hbx.size));have HSX:=Lh (Rd.blk (f:=stF) (xs:=[sp n v es pu cu,sx 2,sx 3,sx 4,sx 2,sx 3]) (show Blk W1.heap.size _ 51 X from by rw [hX];exact Blk.new W1 _ _));have HRN:=Lh (run20 (newW ⟨#[99,97,109,112,117,115]⟩) [sp n v es pu cu,sx 2,sx 3,sx 4,sx 2,sx 3] none ar1 (some ⟨W1.heap.size,0,none⟩) 0 cr1 6 _ X ((hWA1.below hbx).mono hbx.size) (HG.out.made HBX.out) HSX.out (fun x hx => by
   simp only [List.mem_cons,List.not_mem_nil,or_false] at hx;rcases hx with rfl | rfl | rfl | rfl | rfl | rfl
   ·exact HEV.out
   ·exact .inl rfl
   ·exact .inl rfl
   ·exact .inl rfl
   ·exact .inl rfl
   ·exact .inl rfl) (by show 6 <= 1000;decide)
  (fun i hi => by rw [kl_take n v es pu cu i hi];exact (known_ok HFV.out HV0.out code_c HES.out i hi).1)
  (fun i hi => by rw [kl_take n v es pu cu i hi];exact (known_ok HFV.out HV0.out code_c HES.out i hi).2)
  (notes_le (fun i hi => by rw [kl_take n v es pu cu i hi];exact (known_ok HFV.out HV0.out code_c HES.out i hi).2))
  (fun x hx => by
   have:=HES.out;simp only [List.mem_cons,List.not_mem_nil,or_false] at hx;rcases hx with rfl | rfl | rfl | rfl | rfl | rfl <;> simp [sp,sx,st,stP] <;> omega)
  (fun x hx => by
   simp only [List.mem_cons,List.not_mem_nil,or_false] at hx;rcases hx with rfl | rfl | rfl | rfl | rfl | rfl <;> (simp [sp,sx,st,stP])))
 rw [show ([sp n v es pu cu,sx 2,sx 3,sx 4,sx 2,sx 3].map StX.s) = [stP n v es,st 2,st 3,st 4,st 2,st 3] from rfl,(known_run HFV.out HV0.out code_c HES.out).2.2.2.2.2] at HRN;have p0 : W1.cell? ⟨P,0,none⟩ = some (.string ⟨#[99,97,109,112,117,115]⟩):=HPX.out.cell 0;have p1 : W1.cell? ⟨P,1,none⟩ = some (.string ⟨#[]⟩):=HPX.out.cell 1;have p2 : W1.cell? ⟨P,2,none⟩ = some (.slice none 0 0):=HPX.out.cell 2;have p3 : W1.cell? ⟨P,3,none⟩ = some (.slice ar1 1 cr1):=HPX.out.cell 3;have f0 : W1.cell? ⟨F,0,none⟩ = some (.string n):=HFW.out.cell 0;have f1 : W1.cell? ⟨F,1,none⟩ = some (.int .i64 v):=HFW.out.cell 1;have f2 : W1.cell? ⟨F,2,none⟩ = some (.slice pu es.length cu):=HFW.out.cell 2;have t0 : X.cell? ⟨P,0,none⟩ = some (.string ⟨#[99,97,109,112,117,115]⟩):=HPY.out.cell 0;have t1 : X.cell? ⟨P,1,none⟩ = some (.string ⟨#[]⟩):=HPY.out.cell 1;have t2 : X.cell? ⟨P,2,none⟩ = some (.slice none 0 0):=HPY.out.cell 2;have t3 : X.cell? ⟨P,3,none⟩ = some (.slice ar1 1 cr1):=HPY.out.cell 3;unfold wldY;rw [show (newW ⟨#[99,97,109,112,117,115]⟩).zone = ⟨#[99,97,109,112,117,115]⟩ from rfl,show (newW ⟨#[99,97,109,112,117,115]⟩).cur = ⟨#[]⟩ from rfl,show (newW ⟨#[99,97,109,112,117,115]⟩).rds.length = 1 from rfl];go_upto_region 5 with (fail);rw [<- hW1];rw [<- hP];clear hW1 hb2 hbx hs1 hP hWA1 hO3 hb3 HLX HF2 HEX HNW;go_upto_region 6 with (fail);have hX' : W1.alloc (.cells #[.int .i64 1,.int .i64 0,.int .i64 0,.string n,.int .i64 v,.slice pu es.length cu,.int .i64 2,.int .i64 0,.int .i64 0,.string ⟨#[]⟩,.int .i64 0,.slice none 0 0,.int .i64 3,.int .i64 0,.int .i64 0,.string ⟨#[]⟩,.int .i64 0,.slice none 0 0,.int .i64 4,.int .i64 0,.int .i64 0,.string ⟨#[]⟩,.int .i64 0,.slice none 0 0,.int .i64 2,.int .i64 0,.int .i64 0,.string ⟨#[]⟩,.int .i64 0,.slice none 0 0,.int .i64 3,.int .i64 0,.int .i64 0,.string ⟨#[]⟩,.int .i64 0,.slice none 0 0] 51) = X:=by rw [hX];rfl
 rw [hX'];clear hX' hX;go_wp2_with fail;refine HRN.out.mono ?_;rintro e w5 ⟨vw5,vr5,vn5,xs5,ge,arr,rfl,hO5,hGE,hle,hcs,hb5⟩;obtain ⟨aw5,cw5,ar5,cr5,an5,cn5,rfl,rfl,rfl,hWA5, -, -⟩:=hO5.wat;obtain ⟨tg,htg⟩ : ∃ tg,tg = tagV (SV n v es ⟨#[99,97,109,112,117,115]⟩) v:=⟨_,rfl⟩
 have htn : ¬ tg = 0:=by rw [htg];exact tag_ne (by have:=HV0.out;omega)
 rw [<- htg] at hWA5 ;obtain ⟨gm,om,ham,hgm,hcm⟩:=Rd.get msgF_len hWA5.way (show ([⟨0,true,tg,⟨#[]⟩⟩] : List Msg)[0]? = some ⟨0,true,tg,⟨#[]⟩⟩ from rfl);subst ham;obtain ⟨SS,hSS⟩ : ∃ SS,SS = SV n v es ⟨#[99,97,109,112,117,115]⟩:=⟨_,rfl⟩
 obtain ⟨Q,hQ⟩ : ∃ Q,Q = w5.heap.size:=⟨_,rfl⟩
 obtain ⟨Z,hZ⟩ : ∃ Z,Z = w5.alloc (.cells #[.string ⟨#[99,97,109,112,117,115]⟩,.string SS,.slice (some ⟨gm,om,none⟩) 1 cw5,.slice ar5 1 cr5] 31):=⟨_,rfl⟩
 have hbZ : Below w5.heap.size w5 Z:=by rw [hZ];exact below_box w5 _
 have HQZ:=Lh (show Blk Q #[.string ⟨#[99,97,109,112,117,115]⟩,.string SS,.slice (some ⟨gm,om,none⟩) 1 cw5,.slice ar5 1 cr5] 31 Z from by rw [hZ,hQ];exact Blk.new w5 _ _);have HGZ:=Lh (hGE.below hbZ hGE.lt);have hmk6:=mk54_6;obtain ⟨V,hV⟩ : ∃ V,V = Z.alloc (.cells #[.int .i64 0,.int .i64 0,.int .i64 0,.int .i64 0,.int .i64 0,.int .i64 0] 32):=⟨_,rfl⟩
 have hbV : Below Z.heap.size Z V:=by rw [hV];exact below_box Z _
 have HBV:=Lh (HBX.out.trans ((hb5.mono HBX.out.size).trans ((hbZ.mono (Nat.le_trans HBX.out.size hb5.size)).trans (hbV.mono (Nat.le_trans HBX.out.size (Nat.le_trans hb5.size hbZ.size))))));have HQV:=Lh (HQZ.out.below hbV HQZ.out.lt);have HGV:=Lh (HGZ.out.below hbV HGZ.out.lt);have HSE:=Lh (sameerr22 [0,0,0,0,0,0] [0,0,0,0,0,0] ge Z.heap.size 6 6 V (fun j c h => (HGV.out.cell j).trans (hcs j c h)) (fun j c h => by
  rw [(show Blk Z.heap.size #[.int .i64 0,.int .i64 0,.int .i64 0,.int .i64 0,.int .i64 0,.int .i64 0] 32 V from by rw [hV];exact Blk.new Z _ _).cell];match j,h with
  | 0,h => cases h;rfl
  | 1,h => cases h;rfl
  | 2,h => cases h;rfl
  | 3,h => cases h;rfl
  | 4,h => cases h;rfl
  | 5,h => cases h;rfl
  | j + 6,h => simp at h) ⟨HGV.out.lt,by rw [hV];simp⟩ rfl (by decide) (fun c h => by simp at h;omega))
 rw [show decide (([0,0,0,0,0,0] : List Int) = [0,0,0,0,0,0]) = true from rfl] at HSE;have hb5V : Below w5.heap.size w5 V:=hbZ.trans (hbV.mono hbZ.size);have HM1:=Lh ((hb5V.cell (p:=⟨gm,om + 1,none⟩) hgm).trans (show w5.cell? ⟨gm,om + 1,none⟩ = some (.bool true) from by have h:=hcm 1 _ (by omega) rfl;rwa [Nat.zero_mul,Nat.add_zero] at h));have HM2:=Lh ((hb5V.cell (p:=⟨gm,om + 2,none⟩) hgm).trans (show w5.cell? ⟨gm,om + 2,none⟩ = some (.int .i64 tg) from by have h:=hcm 2 _ (by omega) rfl;rwa [Nat.zero_mul,Nat.add_zero] at h));have HM3:=Lh ((hb5V.cell (p:=⟨gm,om + 3,none⟩) hgm).trans (show w5.cell? ⟨gm,om + 3,none⟩ = some (.string ⟨#[]⟩) from by have h:=hcm 3 _ (by omega) rfl;rwa [Nat.zero_mul,Nat.add_zero] at h));have HGM:=Lh (Nat.lt_of_lt_of_le hgm hb5V.size);clear htg hWA5 hcm hgm hO5 hGE hcs hb5 hb5V hbV hbZ hle p0 p1 p2 p3 f0 f1 f2 t0 t1 t2 t3 HPX HPY HFW HEV HSX;unfold wldY;dsimp only [List.length_cons,List.length_nil]
 rw [<- hSS];clear hSS;go_upto_region 7 with (fail);rw [<- hZ,<- hQ];have hvs : V.heap.size = Z.heap.size + 1:=by rw [hV];simp
 clear hZ hQ;go_wp2_with fail;rw [<- hV];clear hV hvs;refine HSE.out.mono ?_;rintro e w6 ⟨rfl,hb6⟩;have HQ6:=Lh (HQV.out.below hb6 HQV.out.lt);have m1 : w6.cell? ⟨gm,om + 1,none⟩ = some (.bool true):=(hb6.cell (p:=⟨gm,om + 1,none⟩) HGM.out).trans HM1.out;have m2 : w6.cell? ⟨gm,om + 2,none⟩ = some (.int .i64 tg):=(hb6.cell (p:=⟨gm,om + 2,none⟩) HGM.out).trans HM2.out;have m3 : w6.cell? ⟨gm,om + 3,none⟩ = some (.string ⟨#[]⟩):=(hb6.cell (p:=⟨gm,om + 3,none⟩) HGM.out).trans HM3.out;have q2 : w6.cell? ⟨Q,2,none⟩ = some (.slice (some ⟨gm,om,none⟩) 1 cw5):=HQ6.out.cell 2;have HB6:=Lh (HBV.out.trans (hb6.mono HBV.out.size));have HAWK:=Lh (HAW.out w6 HB6.out);have hbt : (tg != 0) = true:=by simpa using htn
 clear hb6;go_wp2_with fail;refine HAWK.out.mono ?_;rintro e w7 ⟨rfl,hb7⟩;have HB7:=Lh (HB6.out.trans (hb7.mono HB6.out.size));go_wp2_with fail;try rw [hbt]
 go_ret;exact ⟨rfl,HB7.out⟩
end Go.Proofs.YtcomifbfldoeiaaGreatDoor
