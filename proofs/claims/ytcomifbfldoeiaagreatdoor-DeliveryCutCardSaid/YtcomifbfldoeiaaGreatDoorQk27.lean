/- Deliveries: begin. Condition: none. Deliveries: Valid. Condition: none. Deliveries: the map of the steps. No function of the program in sight. Condition: none. Deliveries: a method of the machine. Condition: none. Deliveries: a method of the machine. Condition: none. -/
import Derived.Test.YtcomifbfldoeiaaGreatDoorQk26
import Derived.Maps.OwnOps
import Derived.Maps.Views
open List renaming mem_of_getElem?->xa,length_map->xb,getElem?_eq_getElem->xd,take_succ_eq_append_getElem->xf,getElem?_eq_some_iff->xg,take_of_length_le->xh
open Nat renaming le_refl->xc,le_trans->xe,zero_le->xj,zero_add->xk
open Int renaming toNat_natCast->xi
set_option maxRecDepth 100000
set_option maxHeartbeats 40000000
namespace Go.Proofs.YtcomifbfldoeiaaGreatDoor
open Go.RowKit
def wldX (W : Wld) (aw : Option Addr) (cw : Nat) (ar : Option Addr) (cr : Nat) : Array Value:=#[.string W.zone,.string W.cur,.slice aw W.way.length cw,.slice ar W.rds.length cr]
theorem none_feed : feedV ⟨#[110,111,110,101]⟩ 0 [] = 0:=by unfold feedV;rw [if_neg (by decide),if_neg (by decide),if_neg (by decide)];rfl
def Begun (W : Wld) (w : World) (e : Ending) (w' : World) : Prop:=∃ b vw vr vn ys,e = .returned (.pointer (some ⟨b,0,none⟩)) /\ Mach b w.heap.size w' W [] vw vr vn ys /\ Below w.heap.size w w'
theorem Mach.rdSnoc {b lo : Nat} {w w' : World} {W : Wld} {r : List Rdr} {ns : List Nte} {vw vr vn vr' : Value} {xs : List RdX} {X : RdX} (h : Mach b lo w { W with rds:=r } ns vw vr vn xs) (hX : RowT lo w (.slice X.ao X.ts.length X.c) X.ts) (hk : KeptT 66 w w') (hr : w'.ownsRow lo 66 3 vr' (xs.length + 1) (gC rdF xs ++ rdF X)) : Mach b lo (w'.setCell ⟨b,3,none⟩ vr') { W with rds:=r ++ [X.r] } ns vw vr' vn (xs ++ [X]):=by
 have hb:=hk b _ 125 (by decide) h.box;exact ⟨hb.set 3 vr',h.ge,(show Rw msgF 4 89 lo w' vw W.way from row_keptT h.way hk (by decide)).set hb (by decide) 3 vr',(Rw.snoc hr).set hb (by decide) 3 vr',(show Rw nteF 4 82 lo w' vn ns from row_keptT h.nts hk (by decide)).set hb (by decide) 3 vr',
  fun x hx => (by
   rcases List.mem_append.1 hx with hm | hm
   ·exact ((h.evs x hm).keptT hk (by decide) (by decide)).set hb (by decide) (by decide) 3 vr'
   ·rw [List.mem_singleton.1 hm];exact (hX.keptT hk (by decide) (by decide)).set hb (by decide) (by decide) 3 vr'),by rw [List.map_append,h.rmap];rfl⟩
theorem rd_kept {b lo n : Nat} {cs : Array Value} {w w1 : World} {vw : Value} {ys : List Value} (hbx : Blk b cs 125 w) (hown : w.ownsRow lo 66 3 vw n ys) (hg : w.grownBy w1 vw.ownBlock) : (∀ i,w1.cell? ⟨b,i,none⟩ = cs[i]?) /\ ∀ i,w1.frozen? ⟨b,i,none⟩ = false:=by
 have h:=hbx.grown hown hg (by decide);exact ⟨fun i => h.cell i,fun i => h.frozen i⟩
theorem begin52 (W : Wld) (aw ar : Option Addr) (cw cr : Nat) (xs : List RdX) (w : World) (hA : WAt w.heap.size w W aw cw ar cr xs) (hV : ValidW W) :
  Calls Tryz.prog 52 #[.agg (wldX W aw cw ar cr)] w (Begun W w):=by
 obtain ⟨i0,hi0,hz0,hz1,hz2⟩:=info_parts infoRdr;obtain ⟨W0,hW0⟩ : ∃ W0,W0 = (w.alloc (.cells #[.string W.zone,.string W.cur,.slice aw W.way.length cw,.slice ar W.rds.length cr] 31)).alloc (.cells #[.string W.zone,.string W.cur,.slice aw W.way.length cw,.slice ar W.rds.length cr,.slice none 0 0] 125):=⟨_,rfl⟩
 have HB0:=Lh (show Below w.heap.size w W0 from by rw [hW0];exact (below_box w _).alloc (by simp) _);have HP0:=Lh (show Blk w.heap.size (wldX W aw cw ar cr) 31 W0 from by rw [hW0];exact (Blk.new w _ _).alloc _);have HM0:=Lh (show Blk (w.heap.size + 1) #[.string W.zone,.string W.cur,.slice aw W.way.length cw,.slice ar W.rds.length cr,.slice none 0 0] 125 W0 from by rw [hW0];exact Blk.new' (g:=w.heap.size + 1) _ _ _ (by simp));have HA:=Lh (hA.below HB0.out);have HV:=Lh hV;have hs0 : w.heap.size + 2 = W0.heap.size:=by rw [hW0];simp
 have HRL:=Lh (show xs.length = W.rds.length from by rw [<- hA.rmap,xb]);have HCL:=Lh (clone106 aw cw W.way W0 (HA.out.way.mono (by omega)) HA.out.wnil (by have:=hV.way;omega));unfold wldX;clear hA hV;go_enter Tryz.func52,Tryz.ntmps52;go_wp2_with fail;rw [<- hW0];refine HCL.out.mono ?_;rintro e w1 ⟨ac,cc,rfl,hR1,hb1⟩;obtain ⟨P,hP⟩ : ∃ P,P = w.heap.size:=⟨_,rfl⟩
 obtain ⟨B,hB⟩ : ∃ B,B = w.heap.size + 1:=⟨_,rfl⟩
 obtain ⟨lo,hlo⟩ : ∃ lo,lo = w.heap.size:=⟨_,rfl⟩
 rw [<- hB] at HM0;rw [<- hP] at HP0;rw [<- hB,<- hP];have HLO:=Lh hlo;have HB1:=Lh (show Below lo w w1 from by rw [hlo];exact HB0.out.trans (hb1.mono (by omega)));have HM1:=Lh (HM0.out.below hb1 HM0.out.lt);have HP1:=Lh (HP0.out.below hb1 HP0.out.lt);have HA1:=Lh (HA.out.below (hb1.mono (show w.heap.size <= W0.heap.size by omega)));have HW1:=Lh (show Rw msgF 4 89 lo w1 (.slice ac W.way.length cc) W.way from hR1.mono (by rw [hlo];omega));have hloB : lo <= B:=by omega
 have hloP : lo <= P:=by omega
 have hPB : P ≠ B:=by omega
 have f2 : w1.frozen? ⟨B,2,none⟩ = false:=HM1.out.frozen 2;have f3 : w1.frozen? ⟨B,3,none⟩ = false:=HM1.out.frozen 3;have g2 : w1.cell? ⟨B,2,none⟩ = some (.slice aw W.way.length cw):=HM1.out.cell 2;have g3 : w1.cell? ⟨B,3,none⟩ = some (.slice ar W.rds.length cr):=HM1.out.cell 3;have p3 : w1.cell? ⟨P,3,none⟩ = some (.slice ar W.rds.length cr):=HP1.out.cell 3;have hlw1 : lo <= w1.heap.size:=by have:=hb1.size;omega
 have HA1 : Hid (WAt lo w1 W aw cw ar cr xs):=Lh (by rw [hlo];exact HA1.out);clear hb1 hR1 HCL hW0 HM0 HP0 HA hs0 hP hB hlo HB0
 -- the machine, without readers
 have hM2 : Mach B lo ((w1.setCell ⟨B,2,none⟩ (.slice ac W.way.length cc)).setCell ⟨B,3,none⟩ (.slice none 0 0)) { W with rds:=[] } [] (.slice ac W.way.length cc) (.slice none 0 0) (.slice none 0 0) [] :=
  ⟨(HM1.out.set 2 _).set 3 _,hloB,(HW1.out.set HM1.out (by decide) 2 _).set (HM1.out.set 2 _) (by decide) 3 _,Rw.nil _ _ _ _ _,Rw.nil _ _ _ _ _,fun x hx => (by cases hx),rfl⟩
 have HB2:=Lh ((HB1.out.setCell (p:=⟨B,2,none⟩) hloB (.slice ac W.way.length cc)).setCell (p:=⟨B,3,none⟩) hloB (.slice none 0 0));have HP2:=Lh ((HP1.out.set_other hPB 2 (.slice ac W.way.length cc)).set_other hPB 3 (.slice none 0 0));have HM2:=Lh hM2;have HA2:=Lh (show WAt lo ((w1.setCell ⟨B,2,none⟩ (.slice ac W.way.length cc)).setCell ⟨B,3,none⟩ (.slice none 0 0)) W aw cw ar cr xs from HA1.out.below (((Below.refl lo w1).setCell (p:=⟨B,2,none⟩) hloB _).setCell (p:=⟨B,3,none⟩) hloB _));clear hM2;obtain ⟨n,hn⟩ : ∃ n,n = W.rds.length:=⟨_,rfl⟩
 have HN:=Lh hn;have hn24 : n <= 24:=by rw [hn];exact HV.out.few
 rw [<- hn] at p3 g3 ⊢;clear hn;go_wp2_with fail;obtain ⟨w2,hw2⟩ : ∃ w2,w2 = (w1.setCell ⟨B,2,none⟩ (.slice ac W.way.length cc)).setCell ⟨B,3,none⟩ (.slice none 0 0):=⟨_,rfl⟩
 rw [<- hw2] at HM2 HB2 HP2 HA2 ⊢;clear hw2 f2 f3 g2 g3 p3 hlw1 HB1 HM1 HP1 HA1 HW1;go_loopw [23] (fun iv wr => ∃ (k : Nat) (vr : Value) (ys : List RdX),iv = .int .i64 k /\ k <= n /\ Hid (Mach B lo wr { W with rds:=W.rds.take k } [] (.slice ac W.way.length cc) vr (.slice none 0 0) ys) /\ Hid (Below lo w wr) /\ Hid (WAt lo wr W aw cw ar cr xs)) (fun iv _ => n - (intOf iv).toNat)
 case atStart => exact ⟨0,_,[],rfl,xj _,Lh (by simpa using HM2.out),HB2,HA2⟩
 case round =>
  obtain ⟨k,vr,ys,rfl,hk,HMr,HBr,HAr⟩:=hrel;clear HM2 HB2 HA2 HP2;by_cases hlt : k < n
  ·have hlti : (k : Int) < n:=by omega
   obtain ⟨x,hx⟩ : ∃ x,xs[k]? = some x:=⟨_,xd (by rw [HRL.out,<- HN.out];exact hlt)⟩
   have HRX:=Lh (rds_get HAr.out.rmap hx);have HOK:=Lh (show rdOk x.v (x.ts.map (·.1)) = true from HV.out.rds _ (xa HRX.out));have HTK:=Lh (show W.rds.take (k + 1) = W.rds.take k ++ [x.r] from by
    obtain ⟨h1,h2⟩:=xg.1 HRX.out;rw [xf h1,h2])
   obtain ⟨gr,og,har,hgl,hcell⟩:=Rd.get rdF_len HAr.out.rds.row hx;have HSG:=Lh (HAr.out.rds.seg x (xa hx));subst har;have k0 : wr.cell? ⟨gr,og + k * 3,none⟩ = some (.int .i64 x.v):=hcell 0 _ (by omega) rfl;have k1 : wr.cell? ⟨gr,og + k * 3 + 1,none⟩ = some (.int .i64 x.tag):=hcell 1 _ (by omega) rfl;have k2 : wr.cell? ⟨gr,og + k * 3 + 2,none⟩ = some (.slice x.ao x.ts.length x.c):=hcell 2 _ (by omega) rfl;have hlw : lo <= wr.heap.size:=xe (by have:=HLO.out;omega) HBr.out.size;have hyl : ys.length = k:=by
    have h1:=congrArg List.length HMr.out.rmap;rw [xb,List.length_take,<- HN.out] at h1;omega
   obtain ⟨av,cv,rfl, -, -⟩:=HMr.out.rds.form;obtain ⟨T,hT⟩ : ∃ T,T = wr.heap.size:=⟨_,rfl⟩
   obtain ⟨X,hX⟩ : ∃ X,X = wr.alloc (.cells #[.int .i64 x.v,.int .i64 x.tag,.slice x.ao x.ts.length x.c] 66):=⟨_,rfl⟩
   have hBX : Below wr.heap.size wr X:=by rw [hX];exact below_box wr _
   have HTX:=Lh (show Blk T #[.int .i64 x.v,.int .i64 x.tag,.slice x.ao x.ts.length x.c] 66 X from by rw [hX,hT];exact Blk.new wr _ _);have HBX:=Lh hBX;have HSX:=Lh ((HSG.out.below (hBX.mono hlw)).mono (show lo <= X.heap.size from xe hlw hBX.size));have HMG : Hid (Calls Tryz.prog 107 #[.agg #[.int .i64 x.v,.int .i64 x.tag,.slice x.ao x.ts.length x.c],.agg #[.string ⟨#[110,111,110,101]⟩,.int .i64 0,.slice none 0 0]] X (Merged x.v x.tag (x.ts.map (·.1)) ⟨#[110,111,110,101]⟩ 0 [] X)):=Lh (merge26 x.v x.tag x.ao x.c x.ts ⟨#[110,111,110,101]⟩ 0 none 0 [] X HSX.out (Seg.nil _ _ _) (by have:=((rdOk_iff _ _).1 HOK.out).2.2.1;rw [xb] at this;omega) (by simp) (fun t ht => rd_lists HOK.out t.1 (List.mem_map_of_mem ht)) (fun t ht => by cases ht));have HST:=Lh (still_merge (tag:=x.tag) HOK.out none_feed ((rdOk_iff _ _).1 HOK.out).1);have t0 : X.cell? ⟨T,0,none⟩ = some (.int .i64 x.v):=HTX.out.cell 0;have t1 : X.cell? ⟨T,1,none⟩ = some (.int .i64 x.tag):=HTX.out.cell 1;have t2 : X.cell? ⟨T,2,none⟩ = some (.slice x.ao x.ts.length x.c):=HTX.out.cell 2;go_upto_region 7 with (fail);rw [<- hX,<- hT];have hTlo : lo <= T:=by rw [hT];exact hlw
   have HTW:=Lh hT;clear hX hT hBX hcell hx k0 k1 k2 HSG;go_wp2_with fail;refine HMG.out.mono ?_;rintro e w3 ⟨v7,g7,c7,pu7,cu7,us,pn,cn,nn,rfl,hmv,hRT7, -,hb7⟩;rw [HST.out] at hmv;simp only [Prod.mk.injEq] at hmv;obtain ⟨e1,e2,e3,e4,e5⟩:=hmv;subst e1 e2 e4 e5;have HE3:=Lh e3;have HT3:=Lh (HTX.out.below hb7 HTX.out.lt);have z0 : w3.frozen? ⟨T,0,none⟩ = false:=HT3.out.frozen 0;have z1 : w3.frozen? ⟨T,1,none⟩ = false:=HT3.out.frozen 1;have z2 : w3.frozen? ⟨T,2,none⟩ = false:=HT3.out.frozen 2;have s0 : w3.cell? ⟨T,0,none⟩ = some (.int .i64 x.v):=HT3.out.cell 0;have s1 : w3.cell? ⟨T,1,none⟩ = some (.int .i64 x.tag):=HT3.out.cell 1;have s2 : w3.cell? ⟨T,2,none⟩ = some (.slice x.ao x.ts.length x.c):=HT3.out.cell 2;have hTle : wr.heap.size <= T:=by rw [HTW.out];exact xc _
   have HB3:=Lh ((((HBX.out.trans (hb7.mono HBX.out.size)).setCell (p:=⟨T,0,none⟩) hTle (.int .i64 x.v)).setCell (p:=⟨T,1,none⟩) hTle (.int .i64 x.tag)).setCell (p:=⟨T,2,none⟩) hTle (.slice pu7 us.length cu7));have HT4:=Lh (((HT3.out.set 0 (.int .i64 x.v)).set 1 (.int .i64 x.tag)).set 2 (.slice pu7 us.length cu7));have HR4:=Lh ((((hRT7.mono (show lo <= X.heap.size from xe hlw HBX.out.size)).set HT3.out (by decide) (by decide) 0 (.int .i64 x.v)).set (HT3.out.set 0 (.int .i64 x.v)) (by decide) (by decide) 1 (.int .i64 x.tag)).set ((HT3.out.set 0 (.int .i64 x.v)).set 1 (.int .i64 x.tag)) (by decide) (by decide) 2 (.slice pu7 us.length cu7));go_upto_region 8 with (fail);obtain ⟨w4,hw4⟩ : ∃ w4,w4 = ((w3.setCell ⟨T,0,none⟩ (.int .i64 x.v)).setCell ⟨T,1,none⟩ (.int .i64 x.tag)).setCell ⟨T,2,none⟩ (.slice pu7 us.length cu7):=⟨_,rfl⟩
   rw [<- hw4] at HB3 HT4 HR4 ⊢;clear hw4 z0 z1 z2 s0 s1 s2 t0 t1 t2 hRT7 hb7 HT3 HTX HMG HSX HBX hTle;have HM4:=Lh (HMr.out.made HB3.out);have HL4:=Lh (HBr.out.trans (HB3.out.mono hlw));have HA4:=Lh (HAr.out.below (HB3.out.mono hlw));have hl4 : lo <= w4.heap.size:=xe hlw HB3.out.size;have hXR : RdX.r ⟨x.v,x.tag,pu7,cu7,us⟩ = x.r:=by unfold RdX.r;simp only [HE3.out]
   have HXR:=Lh hXR;have u0 : w4.cell? ⟨T,0,none⟩ = some (.int .i64 x.v):=HT4.out.cell 0;have u1 : w4.cell? ⟨T,1,none⟩ = some (.int .i64 x.tag):=HT4.out.cell 1;have u2 : w4.cell? ⟨T,2,none⟩ = some (.slice pu7 us.length cu7):=HT4.out.cell 2;have b3 : w4.cell? ⟨B,3,none⟩ = some (.slice av k cv):=by rw [<- hyl];exact HM4.out.box.cell 3
   have f3 : w4.frozen? ⟨B,3,none⟩ = false:=HM4.out.box.frozen 3;have hB4 : B < w4.heap.size:=HM4.out.box.lt;have hT4 : T < w4.heap.size:=HT4.out.lt;have HOW:=Lh (show w4.ownsRow lo 66 3 (.slice av k cv) k (gC rdF ys) from by rw [<- hyl];exact HM4.out.rds);have HYL:=Lh hyl;clear hyl hXR HMr HBr HAr hlw;go_region_law (first | (refine step_append_lies _ (by rfl) _ _ _ (by rfl) lo 66 i0 _ 3 40 Tryz.underlying29 hi0 hz0 hz1 hz2 rfl (by decide) (.slice av k cv) k (gC rdF ys) (by rfl) (HOW.out.alloc _) ⟨w4.heap.size,0,none⟩ 1 1 (rdF ⟨x.v,x.tag,pu7,cu7,us⟩) (by rfl) (by rfl) (blk_cells (Blk.new w4 _ _)) (rdF_one ⟨x.v,x.tag,pu7,cu7,us⟩) (by omega) (by unfold maxLen;omega) (by omega) (by simp;omega) (w4.heap.size + 1) (by simp) ?_;intro gg cap wz hown1 hgrow hat hlt9;obtain ⟨cA,fA⟩:=rd_kept ((HM4.out.box.alloc _).draw) (HOW.out.alloc _) hgrow;have cA3:=cA 3;have fA3:=fA 3))
   all_goals
    have hk:=(KeptT.made (e:=66) (below_drw (below_box w4 (.cells #[.int .i64 x.v,.int .i64 x.tag,.slice pu7 us.length cu7] 66)))).trans (KeptT.grown (HOW.out.alloc _) hgrow);have hb:=below_grownBy ((HL4.out).trans ((below_drw (below_box w4 (.cells #[.int .i64 x.v,.int .i64 x.tag,.slice pu7 us.length cu7] 66))).mono hl4)) (HOW.out.alloc _) (xc _) (by simp;omega) hgrow;have hm:=HM4.out.rdSnoc (X:=⟨x.v,x.tag,pu7,cu7,us⟩) HR4.out hk (by rw [HYL.out];exact hown1);rw [HXR.out,<- HTK.out] at hm;have hba:=HA4.out.below (below_grownBy (below_drw ((below_box w4 (.cells #[.int .i64 x.v,.int .i64 x.tag,.slice pu7 us.length cu7] 66)).mono hl4)) (HOW.out.alloc _) (xc _) (by simp;omega) hgrow);have HM9:=Lh hm;have HL9:=Lh (hb.setCell (p:=⟨B,3,none⟩) hloB (.slice (some ⟨gg,0,none⟩) (k + 1) cap));have HA9:=Lh (hba.below ((Below.refl lo wz).setCell (p:=⟨B,3,none⟩) hloB (.slice (some ⟨gg,0,none⟩) (k + 1) cap)));clear hk hb hm hba hgrow hown1 hat cA fA cA3 fA3;go_wp2_with fail;go_roundw
    case rel => exact ⟨k + 1,_,_,by go_num,by omega,HM9,HL9,HA9⟩
    case measure => simp [intOf];omega
  ·have hlti : ¬ (k : Int) < n:=by omega
   have hkn : W.rds.take k = W.rds:=xh (by rw [<- HN.out];omega);rw [hkn] at HMr;go_wp2_with fail;go_ret;exact ⟨B,_,_,_,ys,rfl,by rw [<- HLO.out];exact HMr.out,by rw [<- HLO.out];exact HBr.out⟩
theorem valid_no {W : Wld} (h : ¬ ValidW W) : validW W = false:=by
 cases hv : validW W
 ·rfl
 ·exact absurd ((validW_iff W).1 hv) h
theorem msgOk_iff (k : Nat) (m : Msg) : msgOk k m = true ↔ 0 <= m.rd /\ m.rd < (k : Int) /\ (m.ans = true ∨ m.body = ⟨#[]⟩):=by
 unfold msgOk;simp only [Bool.and_eq_true,Bool.or_eq_true,decide_eq_true_eq]
theorem validW25 (W : Wld) (aw ar : Option Addr) (cw cr : Nat) (xs : List RdX) (w : World) (hA : WAt w.heap.size w W aw cw ar cr xs) (hG : Glob w) (hwl : W.way.length <= 4611686018427387903) (hrl : W.rds.length <= 4611686018427387903) (hel : ∀ x ∈ xs,x.ts.length <= 4611686018427387903) :
  Calls Tryz.prog 25 #[.agg (wldX W aw cw ar cr)] w fun e w' => e = .returned (.bool (validW W)) /\ Below w.heap.size w w':=by
 obtain ⟨W0,hW0⟩ : ∃ W0,W0 = w.alloc (.cells #[.string W.zone,.string W.cur,.slice aw W.way.length cw,.slice ar W.rds.length cr] 31):=⟨_,rfl⟩
 obtain ⟨P,hP⟩ : ∃ P,P = w.heap.size:=⟨_,rfl⟩
 have HB0:=Lh (show Below w.heap.size w W0 from by rw [hW0];exact below_box w _);have HP0:=Lh (show Blk P (wldX W aw cw ar cr) 31 W0 from by rw [hW0,hP];exact Blk.new w _ _);have HA:=Lh hA;have HG0:=Lh (hG.made HB0.out);have HEL:=Lh hel;have HRL:=Lh (show xs.length = W.rds.length from by rw [<- hA.rmap,xb]);obtain ⟨n,hn⟩ : ∃ n,n = W.way.length:=⟨_,rfl⟩
 obtain ⟨m,hm⟩ : ∃ m,m = W.rds.length:=⟨_,rfl⟩
 have HN:=Lh hn;have HM:=Lh hm;unfold wldX;rw [<- hn] at hW0 hwl ⊢;rw [<- hm] at hW0 hrl ⊢;have c0 : W0.cell? ⟨P,0,none⟩ = some (.string W.zone):=HP0.out.cell 0;have c1 : W0.cell? ⟨P,1,none⟩ = some (.string W.cur):=HP0.out.cell 1;have c2 : W0.cell? ⟨P,2,none⟩ = some (.slice aw n cw):=by rw [hn];exact HP0.out.cell 2
 have c3 : W0.cell? ⟨P,3,none⟩ = some (.slice ar m cr):=by rw [hm];exact HP0.out.cell 3
 have HCD:=Lh (code_any W.zone);obtain ⟨C,hC⟩ : ∃ C,C = Tt.code W.zone.data.toList:=⟨_,rfl⟩
 have HC:=Lh hC;rw [<- hC] at HCD;clear hA hG hel hn hm hC;go_enter Tryz.func25,Tryz.ntmps25;go_upto_region 1 with (fail);rw [<- hW0,<- hP];have HPW:=Lh hP;clear hW0 hP;cases C
 ·have HV:=Lh (valid_no (W:=W) (fun h => by have:=h.zone;rw [<- HC.out] at this;cases this));go_wp2_with fail;refine (HCD.out _).mono ?_;rintro e w1 ⟨rfl,hw⟩;rw [hw];clear hw w1;go_wp2_with fail;go_ret;exact ⟨ret_bool HV.out.symm,HB0.out⟩
 ·by_cases h1 : 64 < (n : Int)
  ·have h1d : decide (64 < (n : Int)) = true:=decide_eq_true h1;have HV:=Lh (valid_no (W:=W) (fun h => by have:=h.way;have:=HN.out;omega));go_wp2_with fail;refine (HCD.out _).mono ?_;rintro e w1 ⟨rfl,hw⟩;rw [hw];clear hw w1;go_wp2_with fail;go_ret;exact ⟨ret_bool HV.out.symm,HB0.out⟩
  ·have h1d : decide (64 < (n : Int)) = false:=decide_eq_false h1;by_cases h2 : (m : Int) < 1
   ·have h2d : decide ((m : Int) < 1) = true:=decide_eq_true h2;have HV:=Lh (valid_no (W:=W) (fun h => by have:=h.one;have:=HM.out;omega));go_wp2_with fail;refine (HCD.out _).mono ?_;rintro e w1 ⟨rfl,hw⟩;rw [hw];clear hw w1;go_wp2_with fail;go_ret;exact ⟨ret_bool HV.out.symm,HB0.out⟩
   ·have h2d : decide ((m : Int) < 1) = false:=decide_eq_false h2;by_cases h3 : 24 < (m : Int)
    ·have h3d : decide (24 < (m : Int)) = true:=decide_eq_true h3;have HV:=Lh (valid_no (W:=W) (fun h => by have:=h.few;have:=HM.out;omega));go_wp2_with fail;refine (HCD.out _).mono ?_;rintro e w1 ⟨rfl,hw⟩;rw [hw];clear hw w1;go_wp2_with fail;go_ret;exact ⟨ret_bool HV.out.symm,HB0.out⟩
    ·have h3d : decide (24 < (m : Int)) = false:=decide_eq_false h3;go_upto_if 33 with (first | (go_at_call 48;refine (HCD.out _).mono ?_;rintro e w1 ⟨rfl,hw⟩;rw [hw];clear hw w1))
     go_cut [] from 33 to 43 (fun wx => Hid (Below W0.heap.size W0 wx) /\ Hid (W.cur = ⟨#[]⟩ ∨ (parseV W.cur W.zone).2 = 0))
     case first =>
      by_cases hc0 : W.cur = ⟨#[]⟩
      ·have hne : W.cur.toList.isEmpty = true:=by rw [hc0,Lib.toList_data];rfl
       rw [hne];clear hne;have HC0:=Lh hc0;clear hc0;go_wp2_with fail;go_meet;exact ⟨Lh (Below.refl _ _),Lh (.inl HC0.out)⟩
      ·have hne : W.cur.toList.isEmpty = false:=not_empty hc0;rw [hne];have HC0:=Lh hc0;have HPA:=Lh (parseG W.cur W.zone HC.out.symm W0 HG0.out);clear hc0;go_wp2_with fail;refine HPA.out.mono ?_;rintro e w1 ⟨pu,cu,ts,rfl, -, -,hb1⟩;obtain ⟨E,hE⟩ : ∃ E,E = (parseV W.cur W.zone).2:=⟨_,rfl⟩
       rw [<- hE];have HEE:=Lh hE;clear hE;by_cases hE0 : E = 0
       ·subst hE0;have hb2:=hb1.alloc hb1.size (.cells #[Value.string (parseV W.cur W.zone).1.1,Value.int .i64 (parseV W.cur W.zone).1.2.1,Value.slice pu ts.length cu] 49);go_wp2_with fail;go_meet;exact ⟨Lh hb2,Lh (.inr HEE.out.symm)⟩
       ·have hEb : (E == 0) = false:=by simp [hE0]
        have HV:=Lh (valid_no (W:=W) (fun h => by
         rcases h.cur with h | h
         ·exact HC0.out h
         ·rw [<- HEE.out] at h;exact hE0 h))
        have hb2:=HB0.out.trans ((hb1.alloc hb1.size (.cells #[Value.string (parseV W.cur W.zone).1.1,Value.int .i64 (parseV W.cur W.zone).1.2.1,Value.slice pu ts.length cu] 49)).mono HB0.out.size);go_wp2_with fail;go_ret;exact ⟨ret_bool HV.out.symm,hb2⟩
     case rest =>
      obtain ⟨HBc,HCc⟩:=hcut;have HPc:=Lh (HP0.out.below HBc.out HP0.out.lt);have HLc:=Lh (HB0.out.trans (HBc.out.mono HB0.out.size));obtain ⟨W1,hW1⟩ : ∃ W1,W1 = wc:=⟨_,rfl⟩
      rw [<- hW1] at HPc HLc ⊢;clear hW1 c0 c1 c2 c3 HP0 HB0 HBc HG0;have c2 : W1.cell? ⟨P,2,none⟩ = some (.slice aw n cw):=by rw [HN.out];exact HPc.out.cell 2
      go_wp2_with fail;go_loopw [47] (fun iv wr => ∃ (k : Nat),iv = .int .i64 k /\ k <= n /\ Hid ((W.way.take k).all (msgOk m) = true) /\ Hid (Below W1.heap.size W1 wr)) (fun iv _ => n - (intOf iv).toNat)
      case atStart => exact ⟨0,rfl,xj _,Lh rfl,Lh (Below.refl _ _)⟩
      case round =>
       obtain ⟨k,rfl,hk,HAk,HBr⟩:=hrel;have HLr:=Lh (HLc.out.trans (HBr.out.mono HLc.out.size));have HPr:=Lh (HPc.out.below HBr.out HPc.out.lt);clear c2;by_cases hlt : k < n
       ·have hlti : (k : Int) < n:=by omega
        obtain ⟨x,hx⟩ : ∃ x,W.way[k]? = some x:=⟨_,xd (by rw [<- HN.out];exact hlt)⟩
        have HXX:=Lh hx;have HTK:=Lh (show W.way.take (k + 1) = W.way.take k ++ [x] from by
         obtain ⟨h1,h2⟩:=xg.1 hx;rw [xf h1,h2])
        obtain ⟨gw,ow,haw,hgl,hcell⟩:=Rd.get msgF_len (HA.out.way.below HLr.out) hx;subst haw;have k0 : wr.cell? ⟨gw,ow + k * 4,none⟩ = some (.int .i64 x.rd):=hcell 0 _ (by omega) rfl;have k1 : wr.cell? ⟨gw,ow + k * 4 + 1,none⟩ = some (.bool x.ans):=hcell 1 _ (by omega) rfl;have k2 : wr.cell? ⟨gw,ow + k * 4 + 2,none⟩ = some (.int .i64 x.tag):=hcell 2 _ (by omega) rfl;have k3 : wr.cell? ⟨gw,ow + k * 4 + 3,none⟩ = some (.string x.body):=hcell 3 _ (by omega) rfl;obtain ⟨T,hT⟩ : ∃ T,T = wr.heap.size:=⟨_,rfl⟩
        obtain ⟨X,hX⟩ : ∃ X,X = wr.alloc (.cells #[.int .i64 x.rd,.bool x.ans,.int .i64 x.tag,.string x.body] 89):=⟨_,rfl⟩
        have HTX:=Lh (show Blk T #[.int .i64 x.rd,.bool x.ans,.int .i64 x.tag,.string x.body] 89 X from by rw [hX,hT];exact Blk.new wr _ _);have HBX:=Lh (show Below W1.heap.size W1 X from by rw [hX];exact HBr.out.alloc HBr.out.size _);have HLX:=Lh (HLc.out.trans (HBX.out.mono HLc.out.size));have HPX:=Lh (HPc.out.below HBX.out HPc.out.lt);go_upto_region 10 with (fail);rw [<- hX,<- hT];clear hX hT hcell hx k0 k1 k2 k3;have t0 : X.cell? ⟨T,0,none⟩ = some (.int .i64 x.rd):=HTX.out.cell 0;have t1 : X.cell? ⟨T,1,none⟩ = some (.bool x.ans):=HTX.out.cell 1;have t3 : X.cell? ⟨T,3,none⟩ = some (.string x.body):=HTX.out.cell 3;have p3 : X.cell? ⟨P,3,none⟩ = some (.slice ar m cr):=by rw [HM.out];exact HPX.out.cell 3
        by_cases m1 : x.rd < 0
        ·have m1d : decide (x.rd < 0) = true:=decide_eq_true m1;have HV:=Lh (valid_no (W:=W) (fun h => by
          have h1:=(msgOk_iff _ x).1 (h.msg x (xa HXX.out));rw [<- HM.out] at h1;omega))
         go_wp2_with fail;go_ret;exact ⟨ret_bool HV.out.symm,HLX.out⟩
        ·have m1d : decide (x.rd < 0) = false:=decide_eq_false m1;by_cases m2 : (m : Int) <= x.rd
         ·have m2d : decide ((m : Int) <= x.rd) = true:=decide_eq_true m2;have HV:=Lh (valid_no (W:=W) (fun h => by
           have h1:=(msgOk_iff _ x).1 (h.msg x (xa HXX.out));rw [<- HM.out] at h1;omega))
          go_wp2_with fail;go_ret;exact ⟨ret_bool HV.out.symm,HLX.out⟩
         ·have m2d : decide ((m : Int) <= x.rd) = false:=decide_eq_false m2;obtain ⟨A,hA⟩ : ∃ A,A = x.ans:=⟨_,rfl⟩
          rw [<- hA] at t1;have HAA:=Lh hA;clear hA;cases A
          ·by_cases m3 : x.body = ⟨#[]⟩
           ·rw [m3] at t3;have HM3:=Lh m3;clear m3;have hall:=Lh (show (W.way.take (k + 1)).all (msgOk m) = true from by rw [HTK.out,List.all_append,HAk.out];simp only [List.all_cons,List.all_nil,Bool.and_true,Bool.true_and];exact (msgOk_iff m x).2 ⟨by omega,by omega,.inr HM3.out⟩);go_wp2_with fail;go_roundw
            case rel => exact ⟨k + 1,by go_num,by omega,hall,HBX⟩
            case measure => simp [intOf];omega
           ·have hne : x.body.toList.isEmpty = false:=not_empty m3;have HM3:=Lh m3;clear m3;have HV:=Lh (valid_no (W:=W) (fun h => by
             have h1:=(msgOk_iff _ x).1 (h.msg x (xa HXX.out));rw [<- HM.out] at h1;rcases h1.2.2 with h2 | h2
             ·rw [<- HAA.out] at h2;cases h2
             ·exact HM3.out h2))
            go_wp2_with fail;go_ret;exact ⟨ret_bool HV.out.symm,HLX.out⟩
          ·skip
           have hall:=Lh (show (W.way.take (k + 1)).all (msgOk m) = true from by rw [HTK.out,List.all_append,HAk.out];simp only [List.all_cons,List.all_nil,Bool.and_true,Bool.true_and];exact (msgOk_iff m x).2 ⟨by omega,by omega,.inl HAA.out.symm⟩);go_wp2_with fail;go_roundw
           case rel => exact ⟨k + 1,by go_num,by omega,hall,HBX⟩
           case measure => simp [intOf];omega
       ·have hlti : ¬ (k : Int) < n:=by omega
        have HWA:=Lh (show W.way.all (msgOk m) = true from by have h:=HAk.out;rw [xh (by rw [<- HN.out];omega)] at h;exact h);have p3 : wr.cell? ⟨P,3,none⟩ = some (.slice ar m cr):=by rw [HM.out];exact HPr.out.cell 3
        have HRM : xs.length = m:=by rw [HRL.out,HM.out]
        clear HAk;go_wp2_with fail;obtain ⟨W2,hW2⟩ : ∃ W2,W2 = wr:=⟨_,rfl⟩
        rw [<- hW2] at HLr HPr ⊢;clear hW2 p3 HPc HLc HBr;go_loopw [76] (fun iv wr => ∃ (k : Nat),iv = .int .i64 k /\ k <= m /\ Hid ((W.rds.take k).all (fun r => rdOk r.v r.es) = true) /\ Hid (Below W2.heap.size W2 wr)) (fun iv _ => m - (intOf iv).toNat)
        case atStart => exact ⟨0,rfl,xj _,Lh rfl,Lh (Below.refl _ _)⟩
        case round =>
         obtain ⟨k2,rfl,hk2,HAk2,HBr2⟩:=hrel;have HLr2:=Lh (HLr.out.trans (HBr2.out.mono HLr.out.size));by_cases hlt2 : k2 < m
         ·have hlti2 : (k2 : Int) < m:=by omega
          obtain ⟨x,hx⟩ : ∃ x,xs[k2]? = some x:=⟨_,xd (by rw [HRM];exact hlt2)⟩
          have HRX:=Lh (rds_get HA.out.rmap hx);have HTK:=Lh (show W.rds.take (k2 + 1) = W.rds.take k2 ++ [x.r] from by
           obtain ⟨h1,h2⟩:=xg.1 HRX.out;rw [xf h1,h2])
          obtain ⟨gw,ow,haw,hgl,hcell⟩:=Rd.get rdF_len (HA.out.rds.row.below HLr2.out) hx;have HSG:=Lh ((HA.out.rds.seg x (xa hx)).below HLr2.out);have hxl:=HEL.out x (xa hx);subst haw;have k0 : wr.cell? ⟨gw,ow + k2 * 3,none⟩ = some (.int .i64 x.v):=hcell 0 _ (by omega) rfl;have k1 : wr.cell? ⟨gw,ow + k2 * 3 + 1,none⟩ = some (.int .i64 x.tag):=hcell 1 _ (by omega) rfl;have k2' : wr.cell? ⟨gw,ow + k2 * 3 + 2,none⟩ = some (.slice x.ao x.ts.length x.c):=hcell 2 _ (by omega) rfl;obtain ⟨T,hT⟩ : ∃ T,T = wr.heap.size:=⟨_,rfl⟩
          obtain ⟨X,hX⟩ : ∃ X,X = wr.alloc (.cells #[.int .i64 x.v,.int .i64 x.tag,.slice x.ao x.ts.length x.c] 66):=⟨_,rfl⟩
          have HTX:=Lh (show Blk T #[.int .i64 x.v,.int .i64 x.tag,.slice x.ao x.ts.length x.c] 66 X from by rw [hX,hT];exact Blk.new wr _ _);have HBX:=Lh (show Below W2.heap.size W2 X from by rw [hX];exact HBr2.out.alloc HBr2.out.size _);have HSX:=Lh (HSG.out.below (show Below w.heap.size wr X from by rw [hX];exact (Below.refl _ wr).alloc HLr2.out.size _));have HVX : Hid (Calls Tryz.prog 54 #[.agg #[.int .i64 x.v,.int .i64 x.tag,.slice x.ao x.ts.length x.c]] X fun e w' => e = .returned (.bool (rdOk x.v (x.ts.map (·.1)))) /\ Below X.heap.size X w'):=Lh (by
           have h:=valid24 x.v x.tag (x.ts.map (·.1)) x.ao x.c w.heap.size X (xe HLr.out.size HBX.out.size) HSX.out.evs (by rw [xb];exact hxl);rw [xb] at h;exact h)
          have t0 : X.cell? ⟨T,0,none⟩ = some (.int .i64 x.v):=HTX.out.cell 0;have t1 : X.cell? ⟨T,1,none⟩ = some (.int .i64 x.tag):=HTX.out.cell 1;have t2 : X.cell? ⟨T,2,none⟩ = some (.slice x.ao x.ts.length x.c):=HTX.out.cell 2;go_upto_region 16 with (fail);rw [<- hX,<- hT];clear hX hT hcell hx k0 k1 k2' HSG HTX;obtain ⟨K,hK⟩ : ∃ K,K = rdOk x.v (x.ts.map (·.1)):=⟨_,rfl⟩
          have HK:=Lh hK;rw [<- hK] at HVX;clear hK;go_wp2_with fail;refine HVX.out.mono ?_;rintro e w9 ⟨rfl,hb9⟩;have HB9:=Lh (HBX.out.trans (hb9.mono HBX.out.size));clear hb9;cases K
          ·have HV:=Lh (valid_no (W:=W) (fun h => by
            have h1:=h.rds _ (xa HRX.out);rw [show rdOk x.r.v x.r.es = false from HK.out.symm] at h1;cases h1))
           go_wp2_with fail;go_ret;exact ⟨ret_bool HV.out.symm,HLr.out.trans (HB9.out.mono HLr.out.size)⟩
          ·have hall:=Lh (show (W.rds.take (k2 + 1)).all (fun r => rdOk r.v r.es) = true from by
            rw [HTK.out,List.all_append,HAk2.out];simp only [List.all_cons,List.all_nil,Bool.and_true,Bool.true_and];exact HK.out.symm)
           go_wp2_with fail;go_roundw
           case rel => exact ⟨k2 + 1,by go_num,by omega,hall,HB9⟩
           case measure => simp [intOf];omega
         ·have hlti2 : ¬ (k2 : Int) < m:=by omega
          have HRA:=Lh (show W.rds.all (fun r => rdOk r.v r.es) = true from by have h:=HAk2.out;rw [xh (by rw [<- HM.out];omega)] at h;exact h);have HV:=Lh ((validW_iff W).2 ⟨HC.out.symm,by have:=HN.out;omega,by have:=HM.out;omega,by have:=HM.out;omega,HCc.out,fun q hq => by rw [<- HM.out];exact List.all_eq_true.1 HWA.out q hq,fun r hr => List.all_eq_true.1 HRA.out r hr⟩);go_wp2_with fail;go_ret;exact ⟨ret_bool HV.out.symm,HLr2.out⟩
open Go.RowKit Go.Maps
theorem keyIM : Keyed Tryz.prog 3:=int_keyed Tryz.underlying3
def Rf (v : Value) : Option (DataW Value × List MemPlace):=some (.held v,[])
theorem rf_inj {v a : Value} {ps : List MemPlace} (h : Rf v = some (.held a,ps)) : v = a:=by
 simp only [Rf,Option.some.injEq,Prod.mk.injEq,DataW.held.injEq] at h;exact h.1
theorem wfK {x : Int} (h0 : -9223372036854775808 <= x) (h1 : x <= 9223372036854775807) : (Lit.int .i64 x).wf = true:=by
 simp [Lit.wf,IntKind.min,IntKind.max,IntKind.signed,IntKind.bits];omega
def fnOf (k : Int) : Value:=.func (.func (56 + k).toNat) #[] #[]
def MapF (b n : Nat) (w : World) : Prop:=∃ D : DataW Value,w.ownsMap Tryz.prog 3 Rf b n D /\ IsMap D /\ (∀ k : Int,1 <= k -> k <= n -> (∀ z,D.atKey (.int .i64 k) z = .held (fnOf k)) /\ Maps.has D (.int .i64 k) = true) /\ ∀ k : Int,(k < 1 ∨ n < k) -> (∀ z,D.atKey (.int .i64 k) z = z) /\ Maps.has D (.int .i64 k) = false
theorem MapF.new (w : World) : MapF w.heap.size 0 (w.alloc (.map #[] 0)) :=
 ⟨.map [],World.ownsMap_made _ _ _ _,isMap_empty,fun k h1 h2 => by omega,fun k _ => ⟨fun z => rfl,rfl⟩⟩
theorem turnedB {w w' : World} {b B : Nat} (h : w.mapTurned w' b) (hB : B <= b) : Below B w w':=by
 obtain ⟨es,clock,es',clock',h1,rfl⟩:=h;refine ⟨rfl,rfl,rfl,?_,fun k hk => ?_⟩
 ·simp [ChangeMaps.setBlock]
 ·simp [ChangeMaps.setBlock,show b ≠ k by omega]
theorem MapF.put {b n : Nat} {w : World} (h : MapF b n w) (hn : n < 7) (k : Int) (hk : k = n + 1) : ∃ w',(Instr.mapUpdate 135 (.map (some b)) (.int .i64 k) (fnOf k)).run Tryz.prog w = .ok () w' /\ MapF b (n + 1) w' /\ ∀ B,B <= b -> Below B w w':=by
 subst hk;obtain ⟨D,h1,h2,h3,h4⟩:=h;obtain ⟨w',hrun,h5,h6⟩:=h1.store keyIM Tryz.underlying135 (by unfold maxLen;omega) (keyOf_int_mk Tryz.underlying3 (wfK (x:=(n : Int) + 1) (by omega) (by omega))) (show Rf (fnOf ((n : Int) + 1)) = _ from rfl);refine ⟨w',hrun,⟨_,h5,h2.put _ _,fun k hk1 hk2 => ?_,fun k hk => ?_⟩,fun B hB => turnedB h6 hB⟩
 ·by_cases hkn : k = (n : Int) + 1
  ·subst hkn;exact ⟨fun z => atKey_put_same h2 (show WideAt.IsKeyLit (Lit.int .i64 ((n : Int) + 1)) from trivial) _ _,has_put_same h2 (show WideAt.IsKeyLit (Lit.int .i64 ((n : Int) + 1)) from trivial) _⟩
  ·have hne : Lit.int .i64 k ≠ Lit.int .i64 ((n : Int) + 1):=fun e => by simp only [Lit.int.injEq,true_and] at e;exact hkn e
   obtain ⟨a1,a2⟩:=h3 k hk1 (by push_cast at hk2;omega);exact ⟨fun z => by rw [atKey_put_other hne];exact a1 z,by rw [has_put_other hne];exact a2⟩
 ·have hne : Lit.int .i64 k ≠ Lit.int .i64 ((n : Int) + 1):=fun e => by simp only [Lit.int.injEq,true_and] at e;push_cast at hk;omega
  obtain ⟨a1,a2⟩:=h4 k (by push_cast at hk;omega);exact ⟨fun z => by rw [atKey_put_other hne];exact a1 z,by rw [has_put_other hne];exact a2⟩
theorem MapF.look_yes {b n : Nat} {w : World} (h : MapF b n w) (hn : n <= 7) (k : Int) (h0 : 1 <= k) (h1 : k <= n) : (Instr.lookup 135 (.map (some b)) (.int .i64 k) true).run Tryz.prog w = .ok (.tuple #[fnOf k,.bool true]) w:=by
 obtain ⟨D,a1,a2,a3,a4⟩:=h;obtain ⟨v,ps,hrun,hv⟩:=a1.look_ok keyIM Tryz.underlying135 (Tryz.zeroValue133 w) (show Rf Value.nilFunc = _ from rfl) (keyOf_int_mk Tryz.underlying3 (wfK (x:=k) (by omega) (by omega)));obtain ⟨c1,c2⟩:=a3 k h0 h1;rw [c1] at hv;rw [hrun,rf_inj hv,c2]
theorem MapF.look_no {b n : Nat} {w : World} (h : MapF b n w) (k : Int) (hk : k < 1 ∨ n < k) (h0 : -9223372036854775808 <= k) (h1 : k <= 9223372036854775807) : (Instr.lookup 135 (.map (some b)) (.int .i64 k) true).run Tryz.prog w = .ok (.tuple #[Value.nilFunc,.bool false]) w:=by
 obtain ⟨D,a1,a2,a3,a4⟩:=h;obtain ⟨v,ps,hrun,hv⟩:=a1.look_ok keyIM Tryz.underlying135 (Tryz.zeroValue133 w) (show Rf Value.nilFunc = _ from rfl) (keyOf_int_mk Tryz.underlying3 (wfK (x:=k) h0 h1));obtain ⟨c1,c2⟩:=a4 k hk;rw [c1] at hv;rw [hrun,rf_inj hv,c2]
theorem MapF.all (w : World) : ∃ u1 u2 u3 u4 u5 u6 u7,(Instr.mapUpdate 135 (.map (some w.heap.size)) (.int .i64 1) (fnOf 1)).run Tryz.prog (w.alloc (.map #[] 0)) = .ok () u1 /\ (Instr.mapUpdate 135 (.map (some w.heap.size)) (.int .i64 2) (fnOf 2)).run Tryz.prog u1 = .ok () u2 /\ (Instr.mapUpdate 135 (.map (some w.heap.size)) (.int .i64 3) (fnOf 3)).run Tryz.prog u2 = .ok () u3 /\ (Instr.mapUpdate 135 (.map (some w.heap.size)) (.int .i64 4) (fnOf 4)).run Tryz.prog u3 = .ok () u4 /\ (Instr.mapUpdate 135 (.map (some w.heap.size)) (.int .i64 5) (fnOf 5)).run Tryz.prog u4 = .ok () u5 /\ (Instr.mapUpdate 135 (.map (some w.heap.size)) (.int .i64 6) (fnOf 6)).run Tryz.prog u5 = .ok () u6 /\ (Instr.mapUpdate 135 (.map (some w.heap.size)) (.int .i64 7) (fnOf 7)).run Tryz.prog u6 = .ok () u7 /\ MapF w.heap.size 7 u7 /\ Below w.heap.size w u7:=by
 obtain ⟨u1,r1,m1,b1⟩:=(MapF.new w).put (by decide) 1 (by decide);obtain ⟨u2,r2,m2,b2⟩:=m1.put (by decide) 2 (by decide);obtain ⟨u3,r3,m3,b3⟩:=m2.put (by decide) 3 (by decide);obtain ⟨u4,r4,m4,b4⟩:=m3.put (by decide) 4 (by decide);obtain ⟨u5,r5,m5,b5⟩:=m4.put (by decide) 5 (by decide);obtain ⟨u6,r6,m6,b6⟩:=m5.put (by decide) 6 (by decide);obtain ⟨u7,r7,m7,b7⟩:=m6.put (by decide) 7 (by decide);exact ⟨u1,u2,u3,u4,u5,u6,u7,r1,r2,r3,r4,r5,r6,r7,m7,((((((((Below.refl _ w).alloc (xc _) _).trans (b1 _ (xc _))).trans (b2 _ (xc _))).trans (b3 _ (xc _))).trans (b4 _ (xc _))).trans (b5 _ (xc _))).trans (b6 _ (xc _))).trans (b7 _ (xc _))⟩
theorem ask58 (b lo : Nat) (W : Wld) (ns : List Nte) (vw vr vn : Value) (xs : List RdX) (s : Stp) (af : Option Addr) (cf : Nat) (w : World) (hM : Mach b lo w W ns vw vr vn xs) (hlo : lo <= w.heap.size) (hl : W.way.length <= 64) :
  Calls Tryz.prog 58 #[.pointer (some ⟨b,0,none⟩),stpV s af cf] w (MPost b lo (((askV W s).1,ns),(askV W s).2) w):=by
 obtain ⟨aw,cw,rfl,hwn, -⟩:=hM.way.form;obtain ⟨ar,cr,rfl,hrn, -⟩:=hM.rds.form;obtain ⟨W0,hW0⟩ : ∃ W0,W0 = w.alloc (.cells #[.int .i64 s.kind,.int .i64 s.pos,.int .i64 s.n,.string s.fn,.int .i64 s.fv,.slice af s.es.length cf] 51):=⟨_,rfl⟩
 have HB0:=Lh (show Below w.heap.size w W0 from by rw [hW0];exact below_box w _);have HM0:=Lh (hM.made HB0.out);have HX0:=Lh (show Blk w.heap.size #[.int .i64 s.kind,.int .i64 s.pos,.int .i64 s.n,.string s.fn,.int .i64 s.fv,.slice af s.es.length cf] 51 W0 from by rw [hW0];exact Blk.new w _ _);obtain ⟨P,hP⟩ : ∃ P,P = w.heap.size:=⟨_,rfl⟩
 rw [<- hP] at HX0;have hPW : P < W0.heap.size:=HX0.out.lt;have hbW : b < W0.heap.size:=HM0.out.box.lt;have c2 : W0.cell? ⟨b,2,none⟩ = some (.slice aw W.way.length cw):=HM0.out.box.cell 2;have c3 : W0.cell? ⟨b,3,none⟩ = some (.slice ar xs.length cr):=HM0.out.box.cell 3;have p1 : W0.cell? ⟨P,1,none⟩ = some (.int .i64 s.pos):=HX0.out.cell 1;have p2 : W0.cell? ⟨P,2,none⟩ = some (.int .i64 s.n):=HX0.out.cell 2;have HLO:=Lh hlo;have HLW:=Lh (xe hlo HB0.out.size);have HML:=Lh hl;have HRL:=Lh (show xs.length = W.rds.length from by rw [<- hM.rmap,xb]);obtain ⟨n,hn⟩ : ∃ n,n = W.way.length:=⟨_,rfl⟩
 have HN:=Lh hn;obtain ⟨k,hk⟩ : ∃ k,k = xs.length:=⟨_,rfl⟩
 have HK:=Lh hk;rw [<- hn] at c2;rw [<- hk] at c3;obtain ⟨i,hi⟩ : ∃ i,i = s.pos:=⟨_,rfl⟩
 have HI:=Lh hi;rw [<- hi] at p1;have HRNIL:=Lh hrn;have HWNIL:=Lh hwn;unfold stpV;rw [<- hi];have HA:=Lh (show askV W s = if i < 0 ∨ (k : Int) <= i then (W,3) else sendV W ⟨i,false,(W.rds.getD i.toNat ⟨0,0,[]⟩).tag,⟨#[]⟩⟩ from by rw [hi,hk,HRL.out];rfl);clear hM hlo hn hk hi hl hrn hwn;go_enter Tryz.func58,Tryz.ntmps58;go_upto_region 1 with (fail);rw [HI.out,<- hW0,<- hP];clear hW0 hP;rw [<- HI.out];by_cases h0 : i < 0
 ·have hd : decide (i < 0) = true:=decide_eq_true h0;have HR:=Lh (show askV W s = (W,3) from by rw [HA.out,if_pos (.inl h0)]);go_quiet (fail);go_wp2_with fail;go_ret;rw [HR.out];exact ⟨_,_,_,_,rfl,HM0.out.made (below_drewN (Below.refl _ _) _),below_drewN (HB0.out.mono HLO.out) _⟩
 ·obtain ⟨j,rfl⟩ : ∃ j : Nat,i = j:=⟨i.toNat,by omega⟩
  have hd : decide ((j : Int) < 0) = false:=decide_eq_false h0;by_cases h1 : (k : Int) <= j
  ·have HR:=Lh (show askV W s = (W,3) from by rw [HA.out,if_pos (.inr h1)]);go_quiet (fail);go_wp2_with fail;go_ret;rw [HR.out];exact ⟨_,_,_,_,rfl,HM0.out.made (below_drewN (Below.refl _ _) _),below_drewN (HB0.out.mono HLO.out) _⟩
  ·have h2 : (j : Int) < k:=by omega
   obtain ⟨x,hx⟩ : ∃ x,xs[j]? = some x:=⟨_,xd (by have:=HK.out;omega)⟩
   have HA2:=Lh (show askV W s = sendV W ⟨j,false,x.tag,⟨#[]⟩⟩ from by rw [HA.out,if_neg (by omega),xi,List.getD_eq_getElem?_getD,rds_get HM0.out.rmap hx];rfl);have HXX:=Lh hx;clear hx;go_quiet (fail)
   obtain ⟨W1,hW1⟩ : ∃ W1,W1 = W0.drewN nq:=⟨_,rfl⟩
   rw [<- hW1];have HBB:=Lh (show Below W0.heap.size W0 W1 from by rw [hW1];exact below_drewN (Below.refl _ _) _);have HM1:=Lh (HM0.out.made HBB.out);clear hW1;go_upto_region 3 with (fail);obtain ⟨g,o,har,hgl,hcell⟩:=Rd.get rdF_len (Rw.rd HM1.out.rds) HXX.out;have t1 : W1.cell? ⟨g,o + j * 3 + 1,none⟩ = some (.int .i64 x.tag):=hcell 1 _ (by omega) rfl;subst har;have HBX:=HM1.out.box;have HSK : Hid (∀ W',Below W1.heap.size W1 W' -> W'.cell? ⟨P,1,none⟩ = some (.int .i64 j) /\ W'.cell? ⟨b,3,none⟩ = some (.slice (some ⟨g,o,none⟩) k cr) /\ W'.cell? ⟨g,o + j * 3 + 1,none⟩ = some (.int .i64 x.tag)):=Lh (fun W' h => ⟨by rw [HI.out];exact ((HX0.out.below HBB.out HX0.out.lt).below h (Nat.lt_of_lt_of_le HX0.out.lt HBB.out.size)).cell 1,by rw [HK.out];exact (HBX.below h HBX.lt).cell 3,(h.cell (p:=⟨g,o + j * 3 + 1,none⟩) hgl).trans t1⟩);have HCS : Hid (Calls Tryz.prog 121 #[.pointer (some ⟨b,0,none⟩),.agg #[.int .i64 j,.bool false,.int .i64 x.tag,.string ⟨#[]⟩]] W1.drew _):=Lh (send121 b lo W ns (.slice aw W.way.length cw) (.slice (some ⟨g,o,none⟩) xs.length cr) vn xs ⟨j,false,x.tag,⟨#[]⟩⟩ W1.drew (HM1.out.made (below_drw (Below.refl _ _))) (xe HLW.out HBB.out.size) HML.out);have HLL:=Lh (show Below lo w W1.drew from below_drw ((HB0.out.mono HLO.out).trans (HBB.out.mono HLW.out)));have hji : (0 : Int) <= (j : Int):=by omega
   have hjn : j < k:=by omega
   clear hcell t1 c2 c3 p1 p2 hd h0 h1 HBX hgl;obtain ⟨g0,g1,g2⟩:=HSK.out _ (Below.refl _ _);go_region_law (first | (go_simp;go_at_call 121;refine HCS.out.mono ?_;rintro e w5 ⟨vw5,vr5,vn5,xs5,rfl,hM5,hB5⟩))
   all_goals
    go_wp2_with fail;go_ret;rw [HA2.out];exact ⟨_,_,_,_,rfl,hM5,HLL.out.trans hB5⟩
theorem cut63 (b lo : Nat) (W : Wld) (ns : List Nte) (vw vr vn : Value) (xs : List RdX) (s : Stp) (af : Option Addr) (cf : Nat) (w : World) (hM : Mach b lo w W ns vw vr vn xs) (hlo : lo <= w.heap.size) (hl : W.way.length <= 64) :
  Calls Tryz.prog 63 #[.pointer (some ⟨b,0,none⟩),stpV s af cf] w (MPost b lo (((cutW W s).1,ns),(cutW W s).2) w):=by
 obtain ⟨aw,cw,rfl,hwn, -⟩:=hM.way.form;obtain ⟨ar,cr,rfl,hrn, -⟩:=hM.rds.form;obtain ⟨W0,hW0⟩ : ∃ W0,W0 = w.alloc (.cells #[.int .i64 s.kind,.int .i64 s.pos,.int .i64 s.n,.string s.fn,.int .i64 s.fv,.slice af s.es.length cf] 51):=⟨_,rfl⟩
 have HB0:=Lh (show Below w.heap.size w W0 from by rw [hW0];exact below_box w _);have HM0:=Lh (hM.made HB0.out);have HX0:=Lh (show Blk w.heap.size #[.int .i64 s.kind,.int .i64 s.pos,.int .i64 s.n,.string s.fn,.int .i64 s.fv,.slice af s.es.length cf] 51 W0 from by rw [hW0];exact Blk.new w _ _);obtain ⟨P,hP⟩ : ∃ P,P = w.heap.size:=⟨_,rfl⟩
 rw [<- hP] at HX0;have hPW : P < W0.heap.size:=HX0.out.lt;have hbW : b < W0.heap.size:=HM0.out.box.lt;have c2 : W0.cell? ⟨b,2,none⟩ = some (.slice aw W.way.length cw):=HM0.out.box.cell 2;have c3 : W0.cell? ⟨b,3,none⟩ = some (.slice ar xs.length cr):=HM0.out.box.cell 3;have p1 : W0.cell? ⟨P,1,none⟩ = some (.int .i64 s.pos):=HX0.out.cell 1;have p2 : W0.cell? ⟨P,2,none⟩ = some (.int .i64 s.n):=HX0.out.cell 2;have HLO:=Lh hlo;have HLW:=Lh (xe hlo HB0.out.size);have HML:=Lh hl;have HRL:=Lh (show xs.length = W.rds.length from by rw [<- hM.rmap,xb]);obtain ⟨n,hn⟩ : ∃ n,n = W.way.length:=⟨_,rfl⟩
 have HN:=Lh hn;obtain ⟨k,hk⟩ : ∃ k,k = xs.length:=⟨_,rfl⟩
 have HK:=Lh hk;rw [<- hn] at c2;rw [<- hk] at c3;obtain ⟨i,hi⟩ : ∃ i,i = s.pos:=⟨_,rfl⟩
 have HI:=Lh hi;rw [<- hi] at p1;have HRNIL:=Lh hrn;have HWNIL:=Lh hwn;unfold stpV;rw [<- hi];have HA:=Lh (show cutW W s = if decide (0 <= i /\ i < (n : Int)) = false then (W,60) else if (W.way.getD i.toNat ⟨0,false,0,⟨#[]⟩⟩).ans = false then (W,60) else ({ W with way:=W.way.set i.toNat { W.way.getD i.toNat ⟨0,false,0,⟨#[]⟩⟩ with body:=cutS (W.way.getD i.toNat ⟨0,false,0,⟨#[]⟩⟩).body s.n } },0) from by rw [hi,hn];rfl);have HHA:=Lh (fun q => has122 b W.zone W.cur aw n cw (.slice ar xs.length cr) vn i (W0.drewN q) (by rw [hn];exact HM0.out.box));clear hM hlo hn hk hi hl hrn hwn;go_enter Tryz.func63,Tryz.ntmps63;go_upto_region 1 with (fail);rw [HI.out,<- hW0,<- hP];clear hW0 hP;rw [<- HI.out];obtain ⟨F,hF⟩ : ∃ F,F = decide (0 <= i /\ i < (n : Int)):=⟨_,rfl⟩
 have HF:=Lh hF;rw [<- hF] at HA HHA;clear hF;cases F
 ·have HR:=Lh (show cutW W s = (W,60) from by rw [HA.out,if_pos rfl]);go_quiet ((go_at_call 122;exact Calls.quiet_of_same (HHA.out _)));go_wp2_with fail;go_ret;rw [HR.out];exact ⟨_,_,_,_,rfl,HM0.out.made (below_drewN (Below.refl _ _) _),below_drewN (HB0.out.mono HLO.out) _⟩
 ·have hin:=of_decide_eq_true HF.out.symm;obtain ⟨j,rfl⟩ : ∃ j : Nat,i = j:=⟨i.toNat,by omega⟩
  have hjn : j < n:=by omega
  obtain ⟨x,hx⟩ : ∃ x,W.way[j]? = some x:=⟨_,xd (by rw [<- HN.out];exact hjn)⟩
  have hgx : W.way.getD (j : Int).toNat ⟨0,false,0,⟨#[]⟩⟩ = x:=by rw [xi,List.getD_eq_getElem?_getD,hx];rfl
  rw [hgx,xi] at HA;obtain ⟨g,cs,haw, -,hlg,hgb⟩:=Rw.own HM0.out.way (by rw [<- HN.out];omega);subst haw;obtain ⟨g',o',haw,hgl,hcell⟩:=Rd.get msgF_len (Rw.rd HM0.out.way) hx;simp only [Option.some.injEq,Addr.mk.injEq,and_true] at haw;obtain ⟨rfl,rfl⟩:=haw;have t1 : W0.cell? ⟨g,j * 4 + 1,none⟩ = some (.bool x.ans):=by have:=hcell 1 _ (by omega) rfl;rw [xk] at this;exact this
  have t3 : W0.cell? ⟨g,j * 4 + 3,none⟩ = some (.string x.body):=by have:=hcell 3 _ (by omega) rfl;rw [xk] at this;exact this
  have HGB:=Lh hgb;have HLG:=Lh hlg;have HXX:=Lh hx;have hji : (0 : Int) <= (j : Int):=by omega
  have hjk : (j : Int) < n:=by omega
  obtain ⟨A,hA⟩ : ∃ A,A = x.ans:=⟨_,rfl⟩
  have HAN:=Lh hA;rw [<- hA] at t1;clear hin hcell hx hgb hlg hgx hA;cases A
  ·have HR:=Lh (show cutW W s = (W,60) from by rw [HA.out,if_neg (by decide),if_pos HAN.out.symm]);go_quiet ((go_at_call 122;exact Calls.quiet_of_same (HHA.out _)));go_wp2_with fail;go_ret;rw [HR.out];exact ⟨_,_,_,_,rfl,HM0.out.made (below_drewN (Below.refl _ _) _),below_drewN (HB0.out.mono HLO.out) _⟩
  ·have HR:=Lh (show cutW W s = ({ W with way:=W.way.set j { x with body:=cutS x.body s.n } },0) from by rw [HA.out,if_neg (by decide),if_neg (by rw [<- HAN.out];decide)]);go_quiet ((go_at_call 122;exact Calls.quiet_of_same (HHA.out _)));obtain ⟨W1,hW1⟩ : ∃ W1,W1 = W0.drewN nq:=⟨_,rfl⟩
   rw [<- hW1];have HBB:=Lh (show Below W0.heap.size W0 W1 from by rw [hW1];exact below_drewN (Below.refl _ _) _);have HM1:=Lh (HM0.out.made HBB.out);have HX1:=Lh (HX0.out.below HBB.out HX0.out.lt);have HG1:=Lh (HGB.out.below HBB.out HGB.out.lt);have d3 : W1.cell? ⟨g,j * 4 + 3,none⟩ = some (.string x.body):=(HBB.out.cell (p:=⟨g,j * 4 + 3,none⟩) HGB.out.lt).trans t3;have d2 : W1.cell? ⟨b,2,none⟩ = some (.slice (some ⟨g,0,none⟩) n cw):=by rw [HN.out];exact HM1.out.box.cell 2
   have e1 : W1.cell? ⟨P,1,none⟩ = some (.int .i64 j):=by rw [HI.out];exact HX1.out.cell 1
   have e2 : W1.cell? ⟨P,2,none⟩ = some (.int .i64 s.n):=HX1.out.cell 2;have f3 : W1.frozen? ⟨g,j * 4 + 3,none⟩ = false:=HG1.out.frozen _;clear hW1 t1 t3 c2 p1 p2 c3;go_upto_region 3 with (fail);go_quiet (fail)
   obtain ⟨W2,hW2⟩ : ∃ W2,W2 = W1.drewN nq:=⟨_,rfl⟩
   rw [<- hW2];have HB2:=Lh (show Below W1.heap.size W1 W2 from by rw [hW2];exact below_drewN (Below.refl _ _) _);have HM2:=Lh (HM1.out.made HB2.out);have HG2:=Lh (HG1.out.below HB2.out HG1.out.lt);have k3 : W2.cell? ⟨g,j * 4 + 3,none⟩ = some (.string x.body):=(HB2.out.cell (p:=⟨g,j * 4 + 3,none⟩) HG1.out.lt).trans d3;have m2 : W2.cell? ⟨P,2,none⟩ = some (.int .i64 s.n):=(HX1.out.below HB2.out HX1.out.lt).cell 2;have z3 : W2.frozen? ⟨g,j * 4 + 3,none⟩ = false:=HG2.out.frozen _;clear hW2 d3 d2 e1 e2 f3;go_upto_region 4 with (fail);go_region
   all_goals
    have hp:=Rw.put msgF_len HM2.out.way (i:=j) (q:=3) (x':={ x with body:=cutS x.body s.n }) (u:=.string (cutS x.body s.n)) HXX.out (by omega) rfl;have hM5:=(HM2.out.wayIn (KeptT.set (i:=j * 4 + 3) (u:=.string (cutS x.body s.n)) HG2.out) hp.1).made (below_drw (Below.refl _ _));have hb5:=below_drw ((((HB0.out.mono HLO.out).trans (HBB.out.mono HLW.out)).trans (HB2.out.mono (xe HLW.out HBB.out.size))).setCell (p:=⟨g,j * 4 + 3,none⟩) HLG.out (.string (cutS x.body s.n)));go_wp2_with fail;go_ret;rw [HR.out];exact ⟨_,_,_,_,rfl,hM5,hb5⟩
end Go.Proofs.YtcomifbfldoeiaaGreatDoor
