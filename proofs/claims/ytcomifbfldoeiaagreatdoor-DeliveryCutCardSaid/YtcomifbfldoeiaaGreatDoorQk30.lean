/- Deliveries: Run. Condition: none. Deliveries: New, with one reader; the errors compared. Condition: none. A text of a feed that is cut anywhere is not the text of a feed. No function of the program in sight. Condition: none. Deliveries: plain laws. No function of the program in sight. Condition: none. -/
import Derived.Test.YtcomifbfldoeiaaGreatDoorQk29
import Derived.Maps.AppendAt
import Derived.Test.YtcomifbfldoeiaaGreatDoorQk26
open List renaming mem_singleton->xa,length_append->xb,length_cons->xd,take_succ_eq_append_getElem->xe,length_nil->xf,getElem?_eq_some_iff->xg,getElem?_eq_getElem->xh,getElem?_cons_zero->xi,take_of_length_le->xj,mem_map_of_mem->xk,mem_cons->xl,not_mem_nil->xm,mem_append->xo,length_map->xp,map_cons->xq,getElem?_cons_succ->xr,map_nil->xt,getElem?_toArray->xv,map_toArray->xw,length_take->xx,nil_append->xy,append_nil->xz
open Nat renaming le_refl->xc,zero_le->xn,le_trans->xu
open Go.World.ownsRow renaming cells->xA
open Option.some renaming inj->xB
namespace Go.Proofs.YtcomifbfldoeiaaGreatDoor
open Go.RowKit
theorem step_append_any {P : Program} {w : World} {ops : Array Oper} {o : Oper} {a : Act} {K : Act -> World -> Prop} {Q : Exit -> Act -> World -> Prop} {E : Prop} (hgd : o.guard = none) (s x : Operand) (t : TypeId)
  (ho : o.op = .call { callee:=.builtin .append,args:=#[s,x],argTypes:=#[t,t] })
  (base : Nat) (e : TypeId) (i : TypeInfo) (z : Value) (size bytes : Nat) (ht : P.underlying t = some (.slice e)) (hi : P.info? e = some i) (hz : i.zero = some z)
  (hsize : i.size = size) (hby : i.bytes = bytes) (hzs : z.cells.size = size) (hsz : 0 < size)
  (v : Value) (n : Nat) (xs : List Value) (hs : a.eval s = v) (hown : w.ownsRow base e size v n xs)
  (an : Option Addr) (m c : Nat) (news : List Value) (hx : a.eval x = .slice an m c) (hl : news.length = m * size) (hnews : (an = none /\ m = 0 /\ c = 0) ∨ ∃ ad,an = some ad /\ ∀ j u,news[j]? = some u -> w.cell? (ad.add j) = some u) (h1 : ∀ u ∈ news,u.oneCell' = true)
  (h63 : n + m <= maxLen) (hbytes : (n + m) * bytes <= 140737488355328) (hbase : base <= w.heap.size)
  (h : ∀ v' w',w'.ownsRow base e size v' (n + m) (xs ++ news) -> w.grownBy w' v.ownBlock -> K (a.put o.dst v') w') :
  if Region.wanted o (yielded ops a.tmps) = true then Oper.wp P o a w K Q else E:=by
 have hw : Region.wanted o (yielded ops a.tmps) = true:=by simp [Region.wanted,hgd]
 rw [if_pos hw];rcases hnews with ⟨rfl,rfl,rfl⟩ | ⟨ad,rfl,hc⟩
 ·have hn : news = []:=List.eq_nil_of_length_eq_zero (by rw [hl,Nat.zero_mul]);subst hn;have hr:=run_append_owned_none (P:=P) (w:=w) base t o.type e i size ht hi v n xs hown;unfold Oper.wp execOp;simp only [ho,resolve,invoke,builtin,Sem.run_bind,Sem.run_pure,Result.andThen_ok,xw,xq,xt,hs,hx,hr];exact h v w (by simpa using hown) (World.grownBy.refl w _)
 ·obtain ⟨v',w',hr,h2,h3, -, -⟩:=run_append_own_at (P:=P) w base t o.type e i z size bytes ht hi hz hsize hby hzs hsz v n xs hown ad m c news hl hc h1 h63 hbytes hbase;unfold Oper.wp execOp;simp only [ho,resolve,invoke,builtin,Sem.run_bind,Sem.run_pure,Result.andThen_ok,xw,xq,xt,hs,hx,hr];exact h v' w' h2 h3
structure StX where
 s : Stp
 af : Option Addr
 cf : Nat
def stF (x : StX) : List Value:=[.int .i64 x.s.kind,.int .i64 x.s.pos,.int .i64 x.s.n,.string x.s.fn,.int .i64 x.s.fv,.slice x.af x.s.es.length x.cf]
theorem stF_len (x : StX) : (stF x).length = 6:=rfl
def stepV (a : (Wld × List Nte) × List Int) (s : Stp) : (Wld × List Nte) × List Int :=
 if (doV a.1.1 s).2 = 0 then (((doV a.1.1 s).1.1,a.1.2 ++ (doV a.1.1 s).1.2),a.2 ++ [0]) else (a.1,a.2 ++ [(doV a.1.1 s).2])
def runW (W : Wld) (ss : List Stp) : (Wld × List Nte) × List Int:=ss.foldl stepV ((W,[]),[])
theorem runW_nil (W : Wld) : runW W [] = ((W,[]),[]):=rfl
theorem runW_snoc (W : Wld) (ss : List Stp) (s : Stp) : runW W (ss ++ [s]) = stepV (runW W ss) s:=by unfold runW;rw [List.foldl_append];rfl
theorem stepV_len (a : (Wld × List Nte) × List Int) (s : Stp) : (stepV a s).2.length = a.2.length + 1:=by unfold stepV;split <;> simp
theorem runW_len (W : Wld) : ∀ ss : List Stp,(runW W ss).2.length = ss.length:=by
 intro ss;suffices h : ∀ (ss : List Stp) a,(ss.foldl stepV a).2.length = a.2.length + ss.length by unfold runW;simpa using h ss ((W,[]),[])
 intro ss;induction ss with
 | nil => intro a;simp
 | cons s r ih => intro a;rw [List.foldl_cons,ih,stepV_len,xd];omega
def Ran (X : (Wld × List Nte) × List Int) (w : World) (e : Ending) (w' : World) : Prop :=
 ∃ vw vr vn xs ge arr,e = .returned (.tuple #[.agg (wldY X.1.1 vw vr),vn,.slice (some ⟨ge,0,none⟩) X.2.length X.2.length]) /\ Own w.heap.size w' X.1.1 X.1.2 vw vr vn xs /\ Blk ge arr 32 w' /\ w.heap.size <= ge /\ (∀ (j : Nat) c,X.2[j]? = some c -> arr[j]? = some (.int .i64 c)) /\ Below w.heap.size w w'
theorem valid_ev {W : Wld} (h : ValidW W) {xs : List RdX} (hm : xs.map RdX.r = W.rds) : ∀ x ∈ xs,x.ts.length <= 4611686018427387903:=fun x hx => by
 have h1:=h.rds x.r (by rw [<- hm];exact xk hx);have h2:=((rdOk_iff _ _).1 h1).2.2.1;unfold RdX.r at h2;simp only [xp] at h2;omega
theorem mk54 (n : Nat) (hn : n <= 1000) (w : World) : ∃ arr : Array Value,arr.size = n /\ (Instr.makeSlice 54 (.int .i64 (n : Int)) (.int .i64 (n : Int))).run Tryz.prog w = .ok (.slice (some ⟨w.heap.size,0,none⟩) n n) (w.alloc (.cells arr 32)):=by
 obtain ⟨i0,hi,hz0,hz1,hz2⟩:=info_parts infoErn;refine ⟨madeCells (Value.int .i64 0).cells (n * 1),by rw [size_madeCells,Nat.mul_one],?_⟩;have hr:=run_make (P:=Tryz.prog) w 54 32 i0 _ Tryz.underlying54 hi hz0 .i64 .i64 n n (by omega) (Int.le_refl _) (by rw [hz2];omega) (by omega);simp only [Int.toNat_natCast,hz1] at hr;exact hr
set_option maxHeartbeats 16000000 in
set_option maxRecDepth 100000 in
theorem run20 (W : Wld) (zs : List StX) (aw ar az : Option Addr) (cw cr cz : Nat) (xs : List RdX) (w : World) (hA : WAt w.heap.size w W aw cw ar cr xs) (hG : Glob w) (hS : Rd stF w.heap.size w az zs) (hE : ∀ x ∈ zs,Evs w.heap.size w x.af x.s.es) (hz : zs.length <= 1000)
  (hv : ∀ i,i <= zs.length -> ValidW (runW W ((zs.take i).map StX.s)).1.1) (hnl : ∀ i,i <= zs.length -> (runW W ((zs.take i).map StX.s)).1.2.length <= 1000000) (hdl : ∀ i x,zs[i]? = some x -> (doV (runW W ((zs.take i).map StX.s)).1.1 x.s).1.2.length <= 1000000)
  (hel : ∀ x ∈ zs,x.s.es.length <= 4611686018427387903) (hk : ∀ x ∈ zs, -9223372036854775808 <= x.s.kind /\ x.s.kind <= 9223372036854775807 /\ x.s.kind ≠ 5 /\ x.s.kind ≠ 6) :
  Calls Tryz.prog 20 #[.agg (wldX W aw cw ar cr),.slice az zs.length cz] w (Ran (runW W (zs.map StX.s)) w):=by
 obtain ⟨W0,hW0⟩ : ∃ W0,W0 = (w.alloc (.cells (wldX W aw cw ar cr) 31)).alloc (.cells #[.string ⟨#[]⟩,.string ⟨#[]⟩,.slice none 0 0,.slice none 0 0] 31):=⟨_,rfl⟩
 obtain ⟨P,hP⟩ : ∃ P,P = w.heap.size:=⟨_,rfl⟩
 obtain ⟨n,hn⟩ : ∃ n,n = zs.length:=⟨_,rfl⟩
 obtain ⟨arr,harr,hmk⟩:=mk54 n (by omega) W0;obtain ⟨W1,hW1⟩ : ∃ W1,W1 = W0.alloc (.cells arr 32):=⟨_,rfl⟩
 have hB0:=(show Below w.heap.size w W0 from by rw [hW0];exact (below_box w _).alloc (by simp) _)
 have hs0 : W0.heap.size = P + 2:=by rw [hW0,hP];simp
 have HB0:=Lh (show Below w.heap.size w W1 from by rw [hW1];exact hB0.alloc hB0.size _);have HP0:=Lh (show Blk P (wldX W aw cw ar cr) 31 W1 from by rw [hW1,hW0,hP];exact ((Blk.new w _ _).alloc _).alloc _);have HR0:=Lh (show Blk (P + 1) #[.string ⟨#[]⟩,.string ⟨#[]⟩,.slice none 0 0,.slice none 0 0] 31 W1 from by rw [hW1,hW0,hP];exact (Blk.new' (g:=w.heap.size + 1) _ _ _ (by simp)).alloc _);have HC0:=Lh (show Blk (P + 2) arr 32 W1 from by rw [hW1,<- hs0];exact Blk.new W0 _ _);have HVS:=Lh hv;have hV0 : ValidW W:=hv 0 (xn _);have HA:=Lh ((hA.below HB0.out).mono (show w.heap.size <= W1.heap.size from HB0.out.size));have HG0:=Lh (hG.made HB0.out);have HVW:=Lh (validW25 W aw ar cw cr xs W1 HA.out HG0.out (by have:=hV0.way;omega) (by have:=hV0.few;omega) (valid_ev hV0 hA.rmap));rw [(validW_iff W).2 hV0] at HVW;have HN:=Lh hn;have HPW:=Lh hP;have HNL:=Lh hnl;have HDL:=Lh hdl;have HEL:=Lh hel;have HK:=Lh hk;have HS:=Lh hS;have HE:=Lh hE;have HG:=Lh hG;have HV0:=Lh hV0;have hn1 : n <= 1000:=by omega
 have p0 : W1.cell? ⟨P,0,none⟩ = some (.string W.zone):=HP0.out.cell 0;have p1 : W1.cell? ⟨P,1,none⟩ = some (.string W.cur):=HP0.out.cell 1;have p2 : W1.cell? ⟨P,2,none⟩ = some (.slice aw W.way.length cw):=HP0.out.cell 2;have p3 : W1.cell? ⟨P,3,none⟩ = some (.slice ar W.rds.length cr):=HP0.out.cell 3;have HARR:=Lh harr;rw [hs0] at hmk;rw [<- hn];unfold wldX at hW0 HVW ⊢;clear hA hG hS hE hv hnl hel hk hn hB0 hV0 hz hdl;go_enter Tryz.func20,Tryz.ntmps20;go_upto_region 1 with (fail);rw [<- hW0,<- hP];clear hW0 hP;go_upto_region 2 with (fail);rw [<- hW1];clear hmk hW1;go_wp2_with fail;refine HVW.out.mono ?_;rintro e w1 ⟨rfl,hb1⟩;have HB1:=Lh (HB0.out.trans (hb1.mono HB0.out.size));have HA1:=Lh (HA.out.below hb1);have HP1:=Lh (HP0.out.below hb1 HP0.out.lt);have HR1:=Lh (HR0.out.below hb1 HR0.out.lt);have HC1:=Lh (HC0.out.below hb1 HC0.out.lt);have HBG:=Lh (begin52 W aw ar cw cr xs w1 (HA1.out.mono hb1.size) HV0.out);have p0 : w1.cell? ⟨P,0,none⟩ = some (.string W.zone):=HP1.out.cell 0;have p1 : w1.cell? ⟨P,1,none⟩ = some (.string W.cur):=HP1.out.cell 1;have p2 : w1.cell? ⟨P,2,none⟩ = some (.slice aw W.way.length cw):=HP1.out.cell 2;have p3 : w1.cell? ⟨P,3,none⟩ = some (.slice ar W.rds.length cr):=HP1.out.cell 3;unfold wldX at HBG;clear hb1 HB0 HA HP0 HR0 HC0 HG0;go_wp2_with fail;refine HBG.out.mono ?_;rintro e w2 ⟨b,vw,vr,vn,ys,rfl,hM2,hb2⟩;have HM2:=Lh hM2;have HB2:=Lh (HB1.out.trans (hb2.mono HB1.out.size));have HP2:=Lh (HP1.out.below hb2 HP1.out.lt);have HR2:=Lh (HR1.out.below hb2 HR1.out.lt);have HC2:=Lh (HC1.out.below hb2 HC1.out.lt);obtain ⟨aw',cw',ar',cr',an',cn',rfl,rfl,rfl, -, -, -⟩:=HM2.out.own.wat;have HMB:=Lh HM2.out.box;have b0 : w2.cell? ⟨b,0,none⟩ = some (.string W.zone):=HMB.out.cell 0;have b1 : w2.cell? ⟨b,1,none⟩ = some (.string W.cur):=HMB.out.cell 1;have b2 : w2.cell? ⟨b,2,none⟩ = some (.slice aw' W.way.length cw'):=HMB.out.cell 2;have b3 : w2.cell? ⟨b,3,none⟩ = some (.slice ar' W.rds.length cr'):=HMB.out.cell 3;have p0 : w2.cell? ⟨P,0,none⟩ = some (.string W.zone):=HP2.out.cell 0;have p1 : w2.cell? ⟨P,1,none⟩ = some (.string W.cur):=HP2.out.cell 1;have p2 : w2.cell? ⟨P,2,none⟩ = some (.slice aw W.way.length cw):=HP2.out.cell 2;have p3 : w2.cell? ⟨P,3,none⟩ = some (.slice ar W.rds.length cr):=HP2.out.cell 3;have f0 : w2.frozen? ⟨P,0,none⟩ = false:=HP2.out.frozen 0;have f1 : w2.frozen? ⟨P,1,none⟩ = false:=HP2.out.frozen 1;have f2 : w2.frozen? ⟨P,2,none⟩ = false:=HP2.out.frozen 2;have f3 : w2.frozen? ⟨P,3,none⟩ = false:=HP2.out.frozen 3;have HB1S:=Lh HB1.out.size;clear hM2 hb2 HB1 HA1 HP1 HR1 HC1 HBG;go_upto_region 10 with (fail);have hwP : w.heap.size <= P:=by rw [HPW.out];exact xc _
 obtain ⟨Y,hY,hBk,hE9, -, -⟩:=fill4 HP2.out HB2.out hwP (.string W.zone) (.string W.cur) (.slice aw' W.way.length cw') (.slice ar' W.rds.length cr');have hO0 : Own w.heap.size Y W [] (.slice aw' W.way.length cw') (.slice ar' W.rds.length cr') (.slice none 0 0) ys:=by
  have h:=((((HM2.out.own.mono HB1S.out).box HP2.out 0 (.string W.zone)).box (HP2.out.set 0 _) 1 (.string W.cur)).box ((HP2.out.set 0 _).set 1 _) 2 (.slice aw' W.way.length cw')).box (((HP2.out.set 0 _).set 1 _).set 2 _) 3 (.slice ar' W.rds.length cr');rw [hY];exact ⟨h.way,h.rds,Rw.nil _ _ _ _ _,h.evs,h.rmap⟩
 have HRY:=Lh (show Blk (P + 1) #[.string ⟨#[]⟩,.string ⟨#[]⟩,.slice none 0 0,.slice none 0 0] 31 Y from by
  rw [hY];exact (((HR2.out.set_other (by omega) 0 _).set_other (by omega) 1 _).set_other (by omega) 2 _).set_other (by omega) 3 _)
 have HCY:=Lh (show Blk (P + 2) arr 32 Y from by
  rw [hY];exact (((HC2.out.set_other (by omega) 0 _).set_other (by omega) 1 _).set_other (by omega) 2 _).set_other (by omega) 3 _)
 rw [<- hY];have HO0:=Lh hO0;have HPY:=Lh hBk;have HBY:=Lh hE9;clear hO0 hBk hE9 hY f0 f1 f2 f3 p0 p1 p2 p3 b0 b1 b2 b3 HMB HM2 HB2 HP2 HR2 HC2;obtain ⟨lo,hlo⟩ : ∃ lo,lo = w.heap.size:=⟨_,rfl⟩
 rw [<- hlo] at hwP;have HLO:=Lh hlo;clear hlo;go_upto_region 11 with (fail);go_wp2_with fail;go_loopw [9,39] (fun tv iv wr => ∃ (k : Nat) (vw vr vn : Value) (ys : List RdX) (arr : Array Value),iv = .int .i64 k /\ tv = vn /\ k <= n /\ Hid (Own lo wr (runW W ((zs.take k).map StX.s)).1.1 (runW W ((zs.take k).map StX.s)).1.2 vw vr vn ys) /\ Hid (Blk P (wldY (runW W ((zs.take k).map StX.s)).1.1 vw vr) 31 wr) /\ Hid (Blk (P + 1) #[.string ⟨#[]⟩,.string ⟨#[]⟩,.slice none 0 0,.slice none 0 0] 31 wr) /\ Hid (Blk (P + 2) arr 32 wr) /\ Hid (arr.size = n /\ ∀ (j : Nat) c,(runW W ((zs.take k).map StX.s)).2[j]? = some c -> arr[j]? = some (.int .i64 c)) /\ Hid (Below lo w wr)) (fun _ iv _ => n - (intOf iv).toNat)
 case atStart => exact ⟨0,_,_,_,ys,arr,rfl,rfl,xn _,Lh (by rw [HLO.out];simpa [runW_nil] using HO0.out),Lh (by simpa [runW_nil,wldY] using HPY.out),HRY,HCY,Lh ⟨HARR.out,fun j c h => by simp [runW_nil] at h⟩,Lh (by rw [HLO.out];exact HBY.out)⟩
 case round =>
  obtain ⟨k,vw,vr,vn,ys,arr,rfl,rfl,hk,HOr,HPr,HRr,HCr,HAr,HBr⟩:=hrel;clear HO0 HPY HRY HCY HARR HBY;by_cases hlt : k < n
  ·have hlti : (k : Int) < n:=by omega
   obtain ⟨x,hx⟩ : ∃ x,zs[k]? = some x:=⟨_,xh (by rw [<- HN.out];exact hlt)⟩
   have hxm:=List.mem_of_getElem? hx;obtain ⟨St,hSt⟩ : ∃ St,St = runW W ((zs.take k).map StX.s):=⟨_,rfl⟩
   rw [<- hSt] at HOr HPr HAr;have hkz : k <= zs.length:=by rw [<- HN.out];exact hk
   have HVK:=Lh (show ValidW St.1.1 from by rw [hSt];exact HVS.out k hkz);have HNS:=Lh (show runW W ((zs.take (k + 1)).map StX.s) = stepV St x.s from by
    obtain ⟨h1,h2⟩:=xg.1 hx;rw [xe h1,h2,List.map_append,xq,xt,runW_snoc,hSt])
   have HNK:=Lh (show St.1.2.length <= 1000000 from by rw [hSt];exact HNL.out k hkz);have HDK:=Lh (show (doV St.1.1 x.s).1.2.length <= 1000000 from by rw [hSt];exact HDL.out k x hx);have HCLN:=Lh (show St.2.length = k from by rw [hSt,runW_len,xp,xx];omega);obtain ⟨g,o,haz,hgl,hcell⟩:=Rd.get stF_len HS.out hx;subst haz;rw [<- HLO.out] at hgl;have k0 : wr.cell? ⟨g,o + k * 6,none⟩ = some (.int .i64 x.s.kind):=(HBr.out.cell (p:=⟨g,o + k * 6,none⟩) hgl).trans (hcell 0 _ (by omega) rfl);have k1 : wr.cell? ⟨g,o + k * 6 + 1,none⟩ = some (.int .i64 x.s.pos):=(HBr.out.cell (p:=⟨g,o + k * 6 + 1,none⟩) hgl).trans (hcell 1 _ (by omega) rfl);have k2 : wr.cell? ⟨g,o + k * 6 + 2,none⟩ = some (.int .i64 x.s.n):=(HBr.out.cell (p:=⟨g,o + k * 6 + 2,none⟩) hgl).trans (hcell 2 _ (by omega) rfl);have k3 : wr.cell? ⟨g,o + k * 6 + 3,none⟩ = some (.string x.s.fn):=(HBr.out.cell (p:=⟨g,o + k * 6 + 3,none⟩) hgl).trans (hcell 3 _ (by omega) rfl);have k4 : wr.cell? ⟨g,o + k * 6 + 4,none⟩ = some (.int .i64 x.s.fv):=(HBr.out.cell (p:=⟨g,o + k * 6 + 4,none⟩) hgl).trans (hcell 4 _ (by omega) rfl);have k5 : wr.cell? ⟨g,o + k * 6 + 5,none⟩ = some (.slice x.af x.s.es.length x.cf):=(HBr.out.cell (p:=⟨g,o + k * 6 + 5,none⟩) hgl).trans (hcell 5 _ (by omega) rfl);obtain ⟨aw1,cw1,ar1,cr1,an1,cn1,rfl,rfl,rfl,hWA, -, -⟩:=HOr.out.wat;have hlw : lo <= wr.heap.size:=xu (by rw [HLO.out];exact xc _) HBr.out.size;obtain ⟨T,hT⟩ : ∃ T,T = wr.heap.size:=⟨_,rfl⟩
   obtain ⟨X,hX⟩ : ∃ X,X = wr.alloc (.cells #[.int .i64 x.s.kind,.int .i64 x.s.pos,.int .i64 x.s.n,.string x.s.fn,.int .i64 x.s.fv,.slice x.af x.s.es.length x.cf] 51):=⟨_,rfl⟩
   have hBX : Below wr.heap.size wr X:=by rw [hX];exact below_box wr _
   have HTX:=Lh (show Blk T #[.int .i64 x.s.kind,.int .i64 x.s.pos,.int .i64 x.s.n,.string x.s.fn,.int .i64 x.s.fv,.slice x.af x.s.es.length x.cf] 51 X from by rw [hX,hT];exact Blk.new wr _ _);have HWX:=Lh ((hWA.below hBX).mono hBX.size);have HBX:=Lh (HBr.out.trans (hBX.mono hlw));have HOX:=Lh (HOr.out.made hBX);have HPX:=Lh (HPr.out.below hBX HPr.out.lt);have HRX:=Lh (HRr.out.below hBX HRr.out.lt);have HCX:=Lh (HCr.out.below hBX HCr.out.lt);have hloX:=Lh (show lo <= X.heap.size from by rw [HLO.out];exact HBX.out.size);have hwX : w.heap.size <= X.heap.size:=by have:=HBX.out.size;exact this
   have HDO:=Lh (do29 St.1.1 x.s aw1 ar1 x.af cw1 cr1 x.cf _ X HWX.out (HG.out.made (by rw [<- HLO.out];exact HBX.out)) (by have:=HVK.out.way;omega) (by have:=HVK.out.few;omega) (valid_ev HVK.out HWX.out.rmap) (((HE.out x hxm).below (by rw [<- HLO.out];exact HBX.out)).mono hwX) (HEL.out x hxm) (HK.out x hxm).1 (HK.out x hxm).2.1 (HK.out x hxm).2.2);have t0 : X.cell? ⟨T,0,none⟩ = some (.int .i64 x.s.kind):=HTX.out.cell 0;have t1 : X.cell? ⟨T,1,none⟩ = some (.int .i64 x.s.pos):=HTX.out.cell 1;have t2 : X.cell? ⟨T,2,none⟩ = some (.int .i64 x.s.n):=HTX.out.cell 2;have t3 : X.cell? ⟨T,3,none⟩ = some (.string x.s.fn):=HTX.out.cell 3;have t4 : X.cell? ⟨T,4,none⟩ = some (.int .i64 x.s.fv):=HTX.out.cell 4;have t5 : X.cell? ⟨T,5,none⟩ = some (.slice x.af x.s.es.length x.cf):=HTX.out.cell 5;have p0 : X.cell? ⟨P,0,none⟩ = some (.string St.1.1.zone):=HPX.out.cell 0;have p1 : X.cell? ⟨P,1,none⟩ = some (.string St.1.1.cur):=HPX.out.cell 1;have p2 : X.cell? ⟨P,2,none⟩ = some (.slice aw1 St.1.1.way.length cw1):=HPX.out.cell 2;have p3 : X.cell? ⟨P,3,none⟩ = some (.slice ar1 St.1.1.rds.length cr1):=HPX.out.cell 3;obtain ⟨D,hD⟩ : ∃ D,D = doV St.1.1 x.s:=⟨_,rfl⟩
   rw [<- hD] at HDO HDK;have HD:=Lh hD;have HST:=Lh hSt;unfold stpV wldX at HDO;clear hSt hD hcell hWA hBX HOr HPr HRr HCr HBr hx hxm hkz;go_upto_region 14 with (fail);rw [<- hX,<- hT];clear hX hT k0 k1 k2 k3 k4 k5;go_wp2_with fail;refine HDO.out.mono ?_;rintro e w5 ⟨vw5,vr5,vn5,ys5,rfl,hO5,hb5⟩;obtain ⟨aw5,cw5,ar5,cr5,an5,cn5,rfl,rfl,rfl, -,hN5,hZ5⟩:=hO5.wat;have hB5:=HBX.out.trans (hb5.mono hloX.out);have HP5:=Lh (HPX.out.below hb5 HPX.out.lt);have HR5:=Lh (HRX.out.below hb5 HRX.out.lt);have HC5:=Lh (HCX.out.below hb5 HCX.out.lt);have HT5:=Lh (HTX.out.below hb5 HTX.out.lt);have HS5:=Lh (HOX.out.made hb5);have HO5:=Lh (hO5.mono hloX.out);have HB5:=Lh hB5;have HN5:=Lh hN5;have HZ5:=Lh hZ5;have hl5 : lo <= w5.heap.size:=xu hloX.out hb5.size;clear hO5 hb5 hB5 hN5 hZ5 t0 t1 t2 t3 t4 t5 p0 p1 p2 p3 HTX HOX HPX HRX HCX HBX HDO HWX;unfold wldY;go_upto_region 15 with (fail);obtain ⟨Q,hQ⟩ : ∃ Q,Q = w5.heap.size:=⟨_,rfl⟩
   obtain ⟨Y,hY⟩ : ∃ Y,Y = w5.alloc (.cells #[.string D.1.1.zone,.string D.1.1.cur,.slice aw5 D.1.1.way.length cw5,.slice ar5 D.1.1.rds.length cr5] 31):=⟨_,rfl⟩
   have hbY : Below w5.heap.size w5 Y:=by rw [hY];exact below_box w5 _
   have HQY:=Lh (show Blk Q #[.string D.1.1.zone,.string D.1.1.cur,.slice aw5 D.1.1.way.length cw5,.slice ar5 D.1.1.rds.length cr5] 31 Y from by rw [hY,hQ];exact Blk.new w5 _ _);have HPY:=Lh (HP5.out.below hbY HP5.out.lt);have HRY:=Lh (HR5.out.below hbY HR5.out.lt);have HCY:=Lh (HC5.out.below hbY HC5.out.lt);have HSY:=Lh (HS5.out.made hbY);have HOY:=Lh (HO5.out.made hbY);have HBY:=Lh (HB5.out.trans (hbY.mono hl5));have HNY:=Lh ((HN5.out.below hbY).mono hbY.size);have HQP:=Lh (show Q ≠ P from by rw [hQ];have:=HP5.out.lt;omega);have HQR:=Lh (show Q ≠ P + 1 from by rw [hQ];have:=HR5.out.lt;omega);have HQlo:=Lh (show lo <= Q from by rw [hQ];exact hl5);have hlY : lo <= Y.heap.size:=xu hl5 hbY.size;rw [<- hY,<- hQ];obtain ⟨ck,hck⟩ : ∃ ck,arr[k]? = some ck:=⟨_,Array.getElem?_eq_getElem (by rw [HAr.out.1];exact hlt)⟩
   have c0 : Y.cell? ⟨P + 2,k,none⟩ = some ck:=(HCY.out.cell k).trans hck;have c1 : Y.frozen? ⟨P + 2,k,none⟩ = false:=HCY.out.frozen k;clear hY hQ hbY hck HP5 HR5 HC5 HS5 HO5 HB5 HN5 HT5 hl5;obtain ⟨Z,hZ⟩ : ∃ Z,Z = Y.setCell ⟨P + 2,k,none⟩ (.int .i64 D.2):=⟨_,rfl⟩
   have HQZ:=Lh (show Blk Q #[.string D.1.1.zone,.string D.1.1.cur,.slice aw5 D.1.1.way.length cw5,.slice ar5 D.1.1.rds.length cr5] 31 Z from by rw [hZ];exact HQY.out.set_other (HQY.out.ne HCY.out (by decide)) k _);have HPZ:=Lh (show Blk P (wldY St.1.1 (.slice aw1 St.1.1.way.length cw1) (.slice ar1 St.1.1.rds.length cr1)) 31 Z from by rw [hZ];exact HPY.out.set_other (by omega) k _);have HRZ:=Lh (show Blk (P + 1) #[.string ⟨#[]⟩,.string ⟨#[]⟩,.slice none 0 0,.slice none 0 0] 31 Z from by rw [hZ];exact HRY.out.set_other (by omega) k _);have HCZ:=Lh (show Blk (P + 2) (arr.setIfInBounds k (.int .i64 D.2)) 32 Z from by rw [hZ];exact HCY.out.set k _);have HSZ:=Lh (show Own lo Z St.1.1 St.1.2 (.slice aw1 St.1.1.way.length cw1) (.slice ar1 St.1.1.rds.length cr1) (.slice an1 St.1.2.length cn1) ys from by rw [hZ];exact HSY.out.code HCY.out k _);have HOZ:=Lh (show Own lo Z D.1.1 D.1.2 (.slice aw5 D.1.1.way.length cw5) (.slice ar5 D.1.1.rds.length cr5) (.slice an5 D.1.2.length cn5) ys5 from by rw [hZ];exact HOY.out.code HCY.out k _);have HBZ:=Lh (show Below lo w Z from by rw [hZ];exact HBY.out.setCell (p:=⟨P + 2,k,none⟩) (by show lo <= P + 2;omega) _);have hlZ : lo <= Z.heap.size:=by rw [hZ];simpa using hlY
   have HAZ:=Lh (show (arr.setIfInBounds k (.int .i64 D.2)).size = n /\ ∀ (j : Nat) c,(St.2 ++ [D.2])[j]? = some c -> (arr.setIfInBounds k (.int .i64 D.2))[j]? = some (.int .i64 c) from by
    refine ⟨by rw [Array.size_setIfInBounds];exact HAr.out.1,fun j c h => ?_⟩;have hl:=HCLN.out;by_cases hj : j < St.2.length
    ·rw [List.getElem?_append_left hj] at h;rw [Array.getElem?_setIfInBounds_ne (by omega)];exact HAr.out.2 j c h
    ·rw [List.getElem?_append_right (by omega)] at h;have hj0 : j = k:=by
      by_cases h0 : j - St.2.length = 0
      ·omega
      ·rw [List.getElem?_eq_none (by simp;omega)] at h;cases h
     subst hj0;rw [show j - St.2.length = 0 from by omega] at h;simp only [xi,Option.some.injEq] at h;subst h;rw [Array.getElem?_setIfInBounds_self_of_lt (by rw [HAr.out.1];exact hlt)])
   go_upto_region 16 with (fail);rw [<- hZ];clear hZ c0 c1 HQY HPY HRY HCY HSY HOY HBY HAr hlY;by_cases hd : D.2 = 0
   ·rw [hd] at HAZ HCZ ⊢;have HNS:=Lh (show runW W ((zs.take (k + 1)).map StX.s) = ((D.1.1,St.1.2 ++ D.1.2),St.2 ++ [0]) from by rw [HNS.out];unfold stepV;rw [<- HD.out,if_pos hd]);go_upto_region 17 with (fail)
    have hwlP : lo <= P:=hwP;have q0 : Z.cell? ⟨Q,0,none⟩ = some (.string D.1.1.zone):=HQZ.out.cell 0;have q1 : Z.cell? ⟨Q,1,none⟩ = some (.string D.1.1.cur):=HQZ.out.cell 1;have q2 : Z.cell? ⟨Q,2,none⟩ = some (.slice aw5 D.1.1.way.length cw5):=HQZ.out.cell 2;have q3 : Z.cell? ⟨Q,3,none⟩ = some (.slice ar5 D.1.1.rds.length cr5):=HQZ.out.cell 3;have p0 : Z.cell? ⟨P,0,none⟩ = some (.string St.1.1.zone):=HPZ.out.cell 0;have p1 : Z.cell? ⟨P,1,none⟩ = some (.string St.1.1.cur):=HPZ.out.cell 1;have p2 : Z.cell? ⟨P,2,none⟩ = some (.slice aw1 St.1.1.way.length cw1):=HPZ.out.cell 2;have p3 : Z.cell? ⟨P,3,none⟩ = some (.slice ar1 St.1.1.rds.length cr1):=HPZ.out.cell 3;have f0 : Z.frozen? ⟨P,0,none⟩ = false:=HPZ.out.frozen 0;have f1 : Z.frozen? ⟨P,1,none⟩ = false:=HPZ.out.frozen 1;have f2 : Z.frozen? ⟨P,2,none⟩ = false:=HPZ.out.frozen 2;have f3 : Z.frozen? ⟨P,3,none⟩ = false:=HPZ.out.frozen 3;obtain ⟨i0,hi0,hz0,hz1,hz2⟩:=info_parts infoNte;obtain ⟨V,hV,HPV,hEV, -,hsV⟩:=fill4 HPZ.out HBZ.out hwlP (.string D.1.1.zone) (.string D.1.1.cur) (.slice aw5 D.1.1.way.length cw5) (.slice ar5 D.1.1.rds.length cr5);have HOV : Hid (Own lo V D.1.1 D.1.2 (.slice aw5 D.1.1.way.length cw5) (.slice ar5 D.1.1.rds.length cr5) (.slice an5 D.1.2.length cn5) ys5):=Lh (by rw [hV];exact (((HOZ.out.box HPZ.out 0 _).box (HPZ.out.set 0 _) 1 _).box ((HPZ.out.set 0 _).set 1 _) 2 _).box (((HPZ.out.set 0 _).set 1 _).set 2 _) 3 _);have HSV : Hid (Own lo V St.1.1 St.1.2 (.slice aw1 St.1.1.way.length cw1) (.slice ar1 St.1.1.rds.length cr1) (.slice an1 St.1.2.length cn1) ys):=Lh (by rw [hV];exact (((HSZ.out.box HPZ.out 0 _).box (HPZ.out.set 0 _) 1 _).box ((HPZ.out.set 0 _).set 1 _) 2 _).box (((HPZ.out.set 0 _).set 1 _).set 2 _) 3 _);have hsrc : ∀ U,Own lo U D.1.1 D.1.2 (.slice aw5 D.1.1.way.length cw5) (.slice ar5 D.1.1.rds.length cr5) (.slice an5 D.1.2.length cn5) ys5 -> (an5 = none /\ D.1.2.length = 0 /\ cn5 = 0) ∨ ∃ ad,an5 = some ad /\ ∀ j u,(gC nteF D.1.2)[j]? = some u -> U.cell? (ad.add j) = some u:=fun U h => by
     rcases (show U.ownsRow lo 82 4 _ D.1.2.length (gC nteF D.1.2) from h.nts).2 with ⟨h1,h2⟩ | ⟨g,cap,cur,h1,h2⟩
     ·simp only [Value.slice.injEq] at h1;exact .inl ⟨h1.1,h2,h1.2.2⟩
     ·simp only [Value.slice.injEq] at h1;exact .inr ⟨⟨g,0,none⟩,h1.1,fun j u hj => xA (show U.ownsRow lo 82 4 _ D.1.2.length (gC nteF D.1.2) from h.nts) (g:=g) (by rw [h1.1];rfl) j u hj⟩
    have HSA:=Lh (show Z.ownsRow lo 82 4 (.slice an1 St.1.2.length cn1) St.1.2.length (gC nteF St.1.2) from HSZ.out.nts);have HSB:=Lh (show ((((Z.setCell ⟨P,0,none⟩ (.string D.1.1.zone)).setCell ⟨P,1,none⟩ (.string D.1.1.cur)).setCell ⟨P,2,none⟩ (.slice aw5 D.1.1.way.length cw5)).setCell ⟨P,3,none⟩ (.slice ar5 D.1.1.rds.length cr5)).ownsRow lo 82 4 (.slice an1 St.1.2.length cn1) St.1.2.length (gC nteF St.1.2) from by rw [<- hV];exact HSV.out.nts);have HCA:=Lh (hsrc Z HOZ.out);have HCB:=Lh (hsrc _ (hV ▸ HOV.out));have HNL1:=Lh (show St.1.2.length + D.1.2.length <= 2000000 from by have:=HNK.out;have:=HDK.out;omega);clear hsrc;go_region_law (first | (refine step_append_any (by rfl) _ _ _ (by rfl) lo 82 i0 _ 4 40 Tryz.underlying53 hi0 hz0 hz1 hz2 rfl (by decide) (.slice an1 St.1.2.length cn1) St.1.2.length (gC nteF St.1.2) (by rfl) HSA.out an5 D.1.2.length cn5 (gC nteF D.1.2) (by rfl) (gC_len nteF_len _) HCA.out (gC_one nteF_one _) (by have:=HNL1.out;unfold maxLen;omega) (by have:=HNL1.out;omega) (by simpa using hlZ) ?_;intro v9 w9 hown9 hgrow9;have hkA:=(KeptT.made (below_drw (Below.refl _ Z))).trans (KeptT.grown HSA.out hgrow9);have HPA:=hkA _ _ 31 (by decide) HPZ.out;have a0 : w9.cell? ⟨P,0,none⟩ = some (.string St.1.1.zone):=HPA.cell 0;have a1 : w9.cell? ⟨P,1,none⟩ = some (.string St.1.1.cur):=HPA.cell 1;have a2 : w9.cell? ⟨P,2,none⟩ = some (.slice aw1 St.1.1.way.length cw1):=HPA.cell 2;have a3 : w9.cell? ⟨P,3,none⟩ = some (.slice ar1 St.1.1.rds.length cr1):=HPA.cell 3;have b0:=HPA.frozen 0;have b1:=HPA.frozen 1;have b2:=HPA.frozen 2;have b3:=HPA.frozen 3;have HQA:=hkA _ _ 31 (by decide) HQZ.out;have d0 : w9.cell? ⟨Q,0,none⟩ = some (.string D.1.1.zone):=HQA.cell 0;have d1 : w9.cell? ⟨Q,1,none⟩ = some (.string D.1.1.cur):=HQA.cell 1;have d2 : w9.cell? ⟨Q,2,none⟩ = some (.slice aw5 D.1.1.way.length cw5):=HQA.cell 2;have d3 : w9.cell? ⟨Q,3,none⟩ = some (.slice ar5 D.1.1.rds.length cr5):=HQA.cell 3) | (refine step_append_any (by rfl) _ _ _ (by rfl) lo 82 i0 _ 4 40 Tryz.underlying53 hi0 hz0 hz1 hz2 rfl (by decide) (.slice an1 St.1.2.length cn1) St.1.2.length (gC nteF St.1.2) (by rfl) HSB.out an5 D.1.2.length cn5 (gC nteF D.1.2) (by rfl) (gC_len nteF_len _) HCB.out (gC_one nteF_one _) (by have:=HNL1.out;unfold maxLen;omega) (by have:=HNL1.out;omega) (by simpa using hlZ) ?_;intro v9 w9 hown9 hgrow9))
    all_goals
     have hB9:=below_grownBy (below_drw HBZ.out) HSA.out (xc _) (by simpa using hlZ) hgrow9;have hO9:=HOZ.out.told hkA (show Rw nteF 4 82 lo w9 v9 (St.1.2 ++ D.1.2) from by unfold Rw;rw [gC_app,xb];exact hown9);have hR9:=hkA _ _ 31 (by decide) HRZ.out;have hC9:=hkA _ _ 32 (by decide) HCZ.out;obtain ⟨V9,hV9,hP9,hE9, -, -⟩:=fill4 HPA hB9 hwlP (.string D.1.1.zone) (.string D.1.1.cur) (.slice aw5 D.1.1.way.length cw5) (.slice ar5 D.1.1.rds.length cr5);have HR9:=Lh (show Blk (P + 1) #[.string ⟨#[]⟩,.string ⟨#[]⟩,.slice none 0 0,.slice none 0 0] 31 V9 from by
      rw [hV9];exact (((hR9.set_other (by omega) 0 _).set_other (by omega) 1 _).set_other (by omega) 2 _).set_other (by omega) 3 _)
     have HC9:=Lh (show Blk (P + 2) (arr.setIfInBounds k (.int .i64 0)) 32 V9 from by
      rw [hV9];exact (((hC9.set_other (by omega) 0 _).set_other (by omega) 1 _).set_other (by omega) 2 _).set_other (by omega) 3 _)
     have HO9:=Lh (show Own lo V9 D.1.1 (St.1.2 ++ D.1.2) (.slice aw5 D.1.1.way.length cw5) (.slice ar5 D.1.1.rds.length cr5) v9 ys5 from by
      rw [hV9];exact (((hO9.box HPA 0 _).box (HPA.set 0 _) 1 _).box ((HPA.set 0 _).set 1 _) 2 _).box (((HPA.set 0 _).set 1 _).set 2 _) 3 _)
     have HP9:=Lh hP9;have HE9:=Lh hE9;rw [<- hV9];clear hV9 hP9 hE9 hC9 hR9 hO9 hB9 hown9 hgrow9 hkA HPA HQA a0 a1 a2 a3 b0 b1 b2 b3 d0 d1 d2 d3;go_wp2_with fail;go_roundw
     case rel => exact ⟨k + 1,_,_,_,_,_,by go_num,rfl,by omega,by rw [HNS.out];exact HO9,by rw [HNS.out];exact HP9,HR9,HC9,by rw [HNS.out];exact HAZ,HE9⟩
     case measure => simp [intOf];omega
   ·have HNS:=Lh (show runW W ((zs.take (k + 1)).map StX.s) = (St.1,St.2 ++ [D.2]) from by rw [HNS.out];unfold stepV;rw [<- HD.out,if_neg hd]);go_wp2_with fail;go_roundw
    case rel => exact ⟨k + 1,_,_,_,_,_,by go_num,rfl,by omega,by rw [HNS.out];exact HSZ,by rw [HNS.out];exact HPZ,HRZ,HCZ,by rw [HNS.out];exact HAZ,HBZ⟩
    case measure => simp [intOf];omega
  ·have hlti : ¬ (k : Int) < n:=by omega
   have hkn : k = n:=by omega
   subst hkn;have htk : zs.take k = zs:=xj (by rw [<- HN.out];exact xc _);rw [htk] at HOr HPr HAr;obtain ⟨St,hSt⟩ : ∃ St,St = runW W (zs.map StX.s):=⟨_,rfl⟩
   have HL:=Lh (show St.2.length = k from by rw [hSt,runW_len,xp];exact HN.out.symm);rw [<- hSt] at HOr HPr HAr;have HST:=Lh hSt;clear hSt;obtain ⟨aw1,cw1,ar1,cr1,an1,cn1,rfl,rfl,rfl, -, -, -⟩:=HOr.out.wat;have p0 : wr.cell? ⟨P,0,none⟩ = some (.string St.1.1.zone):=HPr.out.cell 0;have p1 : wr.cell? ⟨P,1,none⟩ = some (.string St.1.1.cur):=HPr.out.cell 1;have p2 : wr.cell? ⟨P,2,none⟩ = some (.slice aw1 St.1.1.way.length cw1):=HPr.out.cell 2;have p3 : wr.cell? ⟨P,3,none⟩ = some (.slice ar1 St.1.1.rds.length cr1):=HPr.out.cell 3;have r0 : wr.cell? ⟨P + 1,0,none⟩ = some (.string ⟨#[]⟩):=HRr.out.cell 0;have r1 : wr.cell? ⟨P + 1,1,none⟩ = some (.string ⟨#[]⟩):=HRr.out.cell 1;have r2 : wr.cell? ⟨P + 1,2,none⟩ = some (.slice none 0 0):=HRr.out.cell 2;have r3 : wr.cell? ⟨P + 1,3,none⟩ = some (.slice none 0 0):=HRr.out.cell 3;have f0 : wr.frozen? ⟨P + 1,0,none⟩ = false:=HRr.out.frozen 0;have f1 : wr.frozen? ⟨P + 1,1,none⟩ = false:=HRr.out.frozen 1;have f2 : wr.frozen? ⟨P + 1,2,none⟩ = false:=HRr.out.frozen 2;have f3 : wr.frozen? ⟨P + 1,3,none⟩ = false:=HRr.out.frozen 3;go_wp2_with fail;obtain ⟨Y,hY,hBk,hE9, -, -⟩:=fill4 HRr.out HBr.out (show lo <= P + 1 by omega) (.string St.1.1.zone) (.string St.1.1.cur) (.slice aw1 St.1.1.way.length cw1) (.slice ar1 St.1.1.rds.length cr1);have hOY : Own lo Y St.1.1 St.1.2 (.slice aw1 St.1.1.way.length cw1) (.slice ar1 St.1.1.rds.length cr1) (.slice an1 St.1.2.length cn1) ys:=by
    rw [hY];exact (((HOr.out.box HRr.out 0 _).box (HRr.out.set 0 _) 1 _).box ((HRr.out.set 0 _).set 1 _) 2 _).box (((HRr.out.set 0 _).set 1 _).set 2 _) 3 _
   have hCY : Blk (P + 2) arr 32 Y:=by
    rw [hY];exact (((HCr.out.set_other (by omega) 0 _).set_other (by omega) 1 _).set_other (by omega) 2 _).set_other (by omega) 3 _
   rw [<- hY];clear hY r0 r1 r2 r3;have r0:=hBk.cell 0;have r1:=hBk.cell 1;have r2:=hBk.cell 2;have r3:=hBk.cell 3;simp only [xv,xi,xr] at r0 r1 r2 r3;refine bodyPost_ret (v:=.tuple #[.agg #[.string St.1.1.zone,.string St.1.1.cur,.slice aw1 St.1.1.way.length cw1,.slice ar1 St.1.1.rds.length cr1],.slice an1 St.1.2.length cn1,.slice (some ⟨P + 2,0,none⟩) k k]) (by simp [results,Tryz.results20,go_sem,r0,r1,r2,r3]) rfl ?_;rw [<- HST.out];exact ⟨_,_,_,_,P + 2,arr,by rw [HL.out];rfl,by rw [<- HLO.out];exact hOY,hCY,by rw [<- HLO.out];omega,HAr.out.2,by rw [<- HLO.out];exact hE9⟩
def newW (z : ByteArray) : Wld:=⟨z,⟨#[]⟩,[],[⟨0,0,[]⟩]⟩
def Newed (z : ByteArray) (w : World) (e : Ending) (w' : World) : Prop :=
 ∃ vr,e = .returned (.tuple #[.agg (wldY (newW z) (.slice none 0 0) vr),.int .i64 0]) /\ Own w.heap.size w' (newW z) [] (.slice none 0 0) vr (.slice none 0 0) [⟨0,0,none,0,[]⟩] /\ Below w.heap.size w w'
theorem mk29 : ∀ w : World,(Instr.makeSlice 29 (.int .i64 1) (.int .i64 1)).run Tryz.prog w = .ok (.slice (some ⟨w.heap.size,0,none⟩) 1 1) (w.alloc (.cells #[.int .i64 0,.int .i64 0,.slice none 0 0] 66)):=fun _ => by kernel_rfl
theorem new13 (z : ByteArray) (hz : Tt.code z.data.toList = true) (w : World) :
  Calls Tryz.prog 13 #[.string z,.int .i64 1] w (Newed z w):=by
 obtain ⟨W0,hW0⟩ : ∃ W0,W0 = w.alloc (.cells #[.string ⟨#[]⟩,.string ⟨#[]⟩,.slice none 0 0,.slice none 0 0] 31):=⟨_,rfl⟩
 obtain ⟨P,hP⟩ : ∃ P,P = w.heap.size:=⟨_,rfl⟩
 have HB0:=Lh (show Below w.heap.size w W0 from by rw [hW0];exact below_box w _);have HP0:=Lh (show Blk P #[.string ⟨#[]⟩,.string ⟨#[]⟩,.slice none 0 0,.slice none 0 0] 31 W0 from by rw [hW0,hP];exact Blk.new w _ _);have hs0 : W0.heap.size = P + 1:=by rw [hW0,hP];simp
 have HCO:=Lh (code_any z W0);rw [hz] at HCO;have hmk:=mk29 W0;rw [hs0] at hmk;obtain ⟨W1,hW1⟩ : ∃ W1,W1 = W0.alloc (.cells #[.int .i64 0,.int .i64 0,.slice none 0 0] 66):=⟨_,rfl⟩
 rw [<- hW1] at hmk;have hb1 : Below W0.heap.size W0 W1:=by rw [hW1];exact below_box W0 _
 have HP1:=Lh (HP0.out.below hb1 HP0.out.lt);have HB1:=Lh (HB0.out.trans (hb1.mono HB0.out.size));have HO1 : Hid (Own w.heap.size W1 (newW z) [] (.slice none 0 0) (.slice (some ⟨P + 1,0,none⟩) 1 1) (.slice none 0 0) [⟨0,0,none,0,[]⟩]):=Lh ⟨Rw.nil _ _ _ _ _,by
  have h:=World.ownsRow_lit (base:=w.heap.size) (e:=66) (size:=3) W0 #[.int .i64 0,.int .i64 0,.slice none 0 0] 1 (by rw [hs0,hP];omega) (by unfold maxLen;omega) rfl;rw [hs0] at h;rw [hW1];exact h,Rw.nil _ _ _ _ _,fun x hx => by rw [xa.1 hx];exact RowT.nil _ _,rfl⟩
 have r0 : W1.cell? ⟨P,0,none⟩ = some (.string ⟨#[]⟩):=HP1.out.cell 0;have r1 : W1.cell? ⟨P,1,none⟩ = some (.string ⟨#[]⟩):=HP1.out.cell 1;have r2 : W1.cell? ⟨P,2,none⟩ = some (.slice none 0 0):=HP1.out.cell 2;have r3 : W1.cell? ⟨P,3,none⟩ = some (.slice none 0 0):=HP1.out.cell 3;have f0 : W1.frozen? ⟨P,0,none⟩ = false:=HP1.out.frozen 0;have f1 : W1.frozen? ⟨P,1,none⟩ = false:=HP1.out.frozen 1;have f2 : W1.frozen? ⟨P,2,none⟩ = false:=HP1.out.frozen 2;have f3 : W1.frozen? ⟨P,3,none⟩ = false:=HP1.out.frozen 3;have hwP : w.heap.size <= P:=by omega
 clear hb1 hW1 HP0;go_enter Tryz.func13,Tryz.ntmps13;go_upto_region 1 with (fail);rw [<- hW0,<- hP];clear hW0 hP;go_wp2_with fail;refine HCO.out.mono ?_;rintro e w1 ⟨rfl,rfl⟩;go_wp2_with fail;obtain ⟨Y,hY,hBk,hE9, -, -⟩:=fill4 HP1.out HB1.out hwP (.string z) (.string ⟨#[]⟩) (.slice none 0 0) (.slice (some ⟨P + 1,0,none⟩) 1 1);have hOY : Own w.heap.size Y (newW z) [] (.slice none 0 0) (.slice (some ⟨P + 1,0,none⟩) 1 1) (.slice none 0 0) [⟨0,0,none,0,[]⟩]:=by
  rw [hY];exact (((HO1.out.box HP1.out 0 _).box (HP1.out.set 0 _) 1 _).box ((HP1.out.set 0 _).set 1 _) 2 _).box (((HP1.out.set 0 _).set 1 _).set 2 _) 3 _
 rw [<- hY];clear hY r0 r1 r2 r3;have r0:=hBk.cell 0;have r1:=hBk.cell 1;have r2:=hBk.cell 2;have r3:=hBk.cell 3;simp only [xv,xi,xr] at r0 r1 r2 r3;refine bodyPost_ret (v:=.tuple #[.agg #[.string z,.string ⟨#[]⟩,.slice none 0 0,.slice (some ⟨P + 1,0,none⟩) 1 1],.int .i64 0]) (by simp [results,Tryz.results13,go_sem,r0,r1,r2,r3]) rfl ?_;exact ⟨_,rfl,hOY,hE9⟩
theorem sameerr22 (xs ys : List Int) (a b : Nat) (ca cb : Nat) (w : World) (hA : ∀ (j : Nat) c,xs[j]? = some c -> w.cell? ⟨a,j,none⟩ = some (.int .i64 c)) (hB : ∀ (j : Nat) c,ys[j]? = some c -> w.cell? ⟨b,j,none⟩ = some (.int .i64 c)) (hab : a < w.heap.size /\ b < w.heap.size) (hl : ys.length = xs.length) (hx : xs.length <= 1000) (_hr : ∀ c ∈ xs, -9223372036854775808 <= c /\ c <= 9223372036854775807) :
  Calls Tryz.prog 22 #[.slice (some ⟨a,0,none⟩) xs.length ca,.slice (some ⟨b,0,none⟩) ys.length cb] w fun e w' => e = .returned (.bool (decide (xs = ys))) /\ Below w.heap.size w w':=by
 obtain ⟨n,hn⟩ : ∃ n,n = xs.length:=⟨_,rfl⟩
 have HA:=Lh hA;have HB:=Lh hB;have HN:=Lh hn;have HL:=Lh hl;have hn1 : n <= 1000:=by omega
 rw [hl,<- hn];have HAB:=Lh hab;clear hA hB hl hx hn hab;go_enter Tryz.func22,Tryz.ntmps22;go_upto_region 3 with (fail);go_wp2_with fail;go_loopw [5] (fun iv wr => ∃ (k : Nat),iv = .int .i64 k /\ k <= n /\ Hid (xs.take k = ys.take k) /\ Hid (Below w.heap.size w wr)) (fun iv _ => n - (intOf iv).toNat)
 case atStart => exact ⟨0,rfl,xn _,Lh (by simp),Lh (Below.refl _ _)⟩
 case round =>
  obtain ⟨k,rfl,hk,HT,HW⟩:=hrel;by_cases hlt : k < n
  ·have hlti : (k : Int) < n:=by omega
   obtain ⟨x,hx⟩ : ∃ x,xs[k]? = some x:=⟨_,xh (by rw [<- HN.out];exact hlt)⟩
   obtain ⟨y,hy⟩ : ∃ y,ys[k]? = some y:=⟨_,xh (by rw [HL.out,<- HN.out];exact hlt)⟩
   have HX:=Lh hx;have HY:=Lh hy;have c0 : wr.cell? ⟨a,k,none⟩ = some (.int .i64 x):=(HW.out.cell (p:=⟨a,k,none⟩) HAB.out.1).trans (HA.out k x hx);have c1 : wr.cell? ⟨b,k,none⟩ = some (.int .i64 y):=(HW.out.cell (p:=⟨b,k,none⟩) HAB.out.2).trans (HB.out k y hy);clear hx hy;go_upto_region 6 with (fail);go_quiet (fail)
   obtain ⟨W2,hW2⟩ : ∃ W2,W2 = wr.drewN nq:=⟨_,rfl⟩
   rw [<- hW2];have HB2:=Lh (show Below w.heap.size w W2 from by rw [hW2];exact below_drewN HW.out _);clear hW2;by_cases hxy : x = y
   ·subst hxy;have HT2:=Lh (show xs.take (k + 1) = ys.take (k + 1) from by
     obtain ⟨h1,h2⟩:=xg.1 HX.out;obtain ⟨h3,h4⟩:=xg.1 HY.out;rw [xe h1,xe h3,h2,h4,HT.out])
    go_wp2_with fail;go_roundw
    case rel => exact ⟨k + 1,by go_num,by omega,HT2,HB2⟩
    case measure => simp [intOf];omega
   ·have HD:=Lh (show decide (xs = ys) = false from decide_eq_false (fun h => by
     have h1:=HX.out;rw [h,HY.out] at h1;exact hxy (xB h1).symm))
    go_wp2_with fail;go_ret;rw [HD.out];exact ⟨rfl,HB2.out⟩
  ·have hlti : ¬ (k : Int) < n:=by omega
   have HD:=Lh (show decide (xs = ys) = true from decide_eq_true (by
    have h:=HT.out;have h1:=HN.out;have h2:=HL.out;rwa [xj (by omega),xj (by omega)] at h))
   go_wp2_with fail;go_ret;rw [HD.out];exact ⟨rfl,HW.out⟩
end Go.Proofs.YtcomifbfldoeiaaGreatDoor
namespace Tt
theorem mem_last {x : List UInt8} {out : List (List UInt8)} (hne : ¬ out = []) (hx : x ∈ out) : x ∈ out.dropLast ∨ x = out.getLastD []:=by
 have h : out = out.dropLast ++ [out.getLast hne]:=(List.dropLast_concat_getLast hne).symm;rw [h] at hx;rcases xo.1 hx with k | k
 ·exact .inl k
 ·right
  rw [xa.1 k,List.getLastD_eq_getLast?,List.getLast?_eq_some_getLast hne];rfl
theorem joinL_grow : ∀ (r out o' : List (List UInt8)),joinL out r = some o' -> ∀ x ∈ out,∃ y ∈ o',x <+: y
 | [],out,o',h,x,hx => by
  unfold joinL at h;cases h;exact ⟨x,hx,List.prefix_rfl⟩
 | l :: r,out,o',h,x,hx => by
  unfold joinL at h;split at h
  ·split at h
   ·cases h
   ·rename_i hne
    rcases mem_last hne hx with k | k
    ·exact joinL_grow r _ o' h x (List.mem_append_left _ k)
    ·obtain ⟨y,hy,hp⟩:=joinL_grow r _ o' h (out.getLastD [] ++ l.tail) (by simp);refine ⟨y,hy,List.IsPrefix.trans ?_ hp⟩;rw [k];exact List.prefix_append _ _
  ·exact joinL_grow r _ o' h x (List.mem_append_left _ hx)
theorem joinL_app : ∀ (a b out : List (List UInt8)),joinL out (a ++ b) = (joinL out a).bind (fun o => joinL o b)
  | [],b,out => by
   rw [xy];conv => rhs;rw [joinL.eq_def]
   rfl
  | l :: a,b,out => by
    rw [List.cons_append,joinL,joinL];split
    · split
      · rfl
      · exact joinL_app a b _
    · exact joinL_app a b _
theorem chop_form {p : List UInt8} {q : List (List UInt8)} (h : chopGo [] p = some q) : (∀ l ∈ q,Clean l) /\ p = q.flatMap crlf:=by
 rcases chopGo_some p.length p [] q (xc _) h (fun c hc => by cases hc) with ⟨h1,h2,_⟩ | ⟨l,rest,h1,h2,h3,h4⟩
 ·subst h1 h2;exact ⟨fun l hl => (by cases hl),rfl⟩
 ·rw [h1];simp only [xy] at h2 ⊢;refine ⟨fun x hx => ?_,by rw [h4];rfl⟩;rcases xl.1 hx with rfl | k
  ·exact h2
  ·exact h3 x k
theorem unf_part {L : List (List UInt8)} (hne : L ≠ []) (hc : ∀ l ∈ L,Clean l) (hb : ∀ l ∈ L,begins l = false) {p r : List UInt8} (h : L.flatMap fold = p ++ r) {ls : List (List UInt8)} (hu : unf p = some ls) : ∀ x ∈ ls,∃ y ∈ L,x <+: y:=by
 have hT:=unf_folds L hne hc hb;unfold unf at hT hu;split at hu
 ·cases hu
 ·split at hT
  ·cases hT
  ·obtain ⟨q,hq,hj⟩:=Option.bind_eq_some_iff.1 hu;obtain ⟨hq1,hq2⟩:=chop_form hq;rw [h,hq2,chopGo_lines q hq1] at hT;obtain ⟨P,hP,hJ⟩:=Option.bind_eq_some_iff.1 hT;obtain ⟨R,_,rfl⟩:=Option.map_eq_some_iff.1 hP;rw [joinL_app,hj] at hJ;exact joinL_grow R ls L hJ
def endL : List UInt8:=[69,78,68,58,86,67,65,76,69,78,68,65,82]
theorem end_cut : ∀ k : Nat,k < 15 -> k ≠ 0 -> chopGo [] ((crlf endL).take k) = none:=by decide
end Tt
namespace Go.Proofs.YtcomifbfldoeiaaGreatDoor
open Go.RowKit
open _root_.Tt (endL)
theorem no_begin {l : List UInt8} {c : UInt8} {r : List UInt8} (hl : l = c :: r) (hc : c ≠ 69) : ¬ endL <+: l:=by
 subst hl;unfold endL;rw [List.cons_prefix_cons];exact fun h => hc h.1.symm
theorem no_end_ev (e : Ev) (z : List UInt8) : ∀ l ∈ evLines e z,¬ endL <+: l:=by
 intro l hl;unfold evLines at hl;simp only [xo] at hl;rcases hl with ((((hl | hl) | hl) | hl) | hl) | hl
 ·unfold evA at hl;simp only [xl,xm,or_false] at hl;rcases hl with rfl | rfl | rfl | rfl | rfl | rfl
  all_goals exact no_begin (c:=_) (r:=_) rfl (by decide)
 ·unfold evX at hl;split at hl
  ·cases hl
  ·rw [xa.1 hl];unfold endL;simp [List.cons_prefix_cons]
 ·unfold evR at hl;split at hl
  ·cases hl
  ·rw [xa.1 hl];exact no_begin (c:=_) (r:=_) rfl (by decide)
 ·unfold evS at hl;rw [xa.1 hl];exact no_begin (c:=_) (r:=_) rfl (by decide)
 ·unfold evL at hl;split at hl
  ·cases hl
  ·rw [xa.1 hl];exact no_begin (c:=_) (r:=_) rfl (by decide)
 ·unfold evC at hl;simp only [xl,xm,or_false] at hl;rcases hl with rfl | rfl
  ·split
   ·exact no_begin (c:=_) (r:=_) rfl (by decide)
   ·exact no_begin (c:=_) (r:=_) rfl (by decide)
  ·decide
theorem no_end_head (n : List UInt8) (v : Int) : ∀ l ∈ headL n v,¬ endL <+: l:=by
 intro l hl;unfold headL at hl;simp only [xl,xm,or_false] at hl;rcases hl with rfl | rfl | rfl | rfl | rfl
 all_goals exact no_begin (c:=_) (r:=_) rfl (by decide)
theorem parseV_cut {n z y : ByteArray} {v : Int} {es : List Ev} (hv : feedV n v es = 0) (hz : Tt.code z.data.toList = true) (k : Nat) (hk : k < (feedT n.data.toList v es z.data.toList).length) : ∃ c,c ≠ 0 /\ parseV (str ((feedT n.data.toList v es z.data.toList).take k)) y = ((⟨#[]⟩,0,[]),c):=by
 rcases parseV_cases (str ((feedT n.data.toList v es z.data.toList).take k)) y with ⟨n',v',es',ls,hp,_,hu,hv',hx⟩ | h
 ·exfalso;obtain ⟨T,hT⟩ : ∃ T,T = feedT n.data.toList v es z.data.toList:=⟨_,rfl⟩
  rw [<- hT] at hk hu;have hu : Tt.unf (T.take k) = some ls:=hu;obtain ⟨L,hL⟩ : ∃ L,L = headL n.data.toList v ++ es.flatMap (fun e => evLines e z.data.toList):=⟨_,rfl⟩
  have hfL : feedL n.data.toList v es z.data.toList = L ++ [Tt.endL]:=by rw [hL];rfl
  have hT2 : T = L.flatMap Tt.fold ++ Tt.crlf Tt.endL:=by
   rw [hT];unfold feedT;rw [hfL,List.flatMap_append];rfl
  have hcl:=feed_clean hv hz;rw [hfL] at hcl;have hne : L ≠ []:=by rw [hL];unfold headL;simp
  have hno : ∀ l ∈ L,¬ Tt.endL <+: l:=by
   intro l hl;rw [hL] at hl;rcases xo.1 hl with h | h
   ·exact no_end_head _ _ l h
   ·obtain ⟨e,_,he⟩:=List.mem_flatMap.1 h;exact no_end_ev e _ l he
  have hmem : Tt.endL ∈ ls:=by
   have h1 : str Tt.endL ∈ keepX (ls.map str):=by
    rw [<- hx];exact xk (by unfold feedL;simp [Tt.endL])
   obtain ⟨l,hl,he⟩:=List.mem_map.1 (List.mem_filter.1 h1).1;have : l = Tt.endL:=by
    have:=congrArg (fun s : ByteArray => s.data.toList) he;simpa [str] using this
   rw [<- this];exact hl
  by_cases hlen : k <= (L.flatMap Tt.fold).length
  ·have hsp : L.flatMap Tt.fold = T.take k ++ (L.flatMap Tt.fold).drop k:=by
    rw [hT2,List.take_append_of_le_length hlen,List.take_append_drop]
   obtain ⟨y',hy,hpre⟩:=Tt.unf_part hne (fun l hl => (hcl l (List.mem_append_left _ hl)).1.clean) (fun l hl => (hcl l (List.mem_append_left _ hl)).2) hsp hu endL hmem;exact hno y' hy hpre
  ·obtain ⟨j,hj⟩ : ∃ j,k = (L.flatMap Tt.fold).length + j:=⟨k - (L.flatMap Tt.fold).length,by omega⟩
   have h15 : (Tt.crlf Tt.endL).length = 15:=rfl;have hTl : T.length = (L.flatMap Tt.fold).length + 15:=by rw [hT2,xb,h15]
   have htk : T.take k = L.flatMap Tt.fold ++ (Tt.crlf Tt.endL).take j:=by
    rw [hT2,hj,List.take_length_add_append]
   have h2:=Tt.end_cut j (by omega) (by omega);unfold Tt.unf at hu;split at hu
   ·cases hu
   ·obtain ⟨q,hq,_⟩:=Option.bind_eq_some_iff.1 hu;rw [htk] at hq;have h3:=Tt.unf_folds L hne (fun l hl => (hcl l (List.mem_append_left _ hl)).1.clean) (fun l hl => (hcl l (List.mem_append_left _ hl)).2);unfold Tt.unf at h3;split at h3
    ·cases h3
    ·obtain ⟨q2,hq2,_⟩:=Option.bind_eq_some_iff.1 h3;obtain ⟨c1,c2⟩:=Tt.chop_form hq2;rw [c2,Tt.chopGo_lines q2 c1,h2] at hq;cases hq
 ·exact h
theorem foldGo_len : ∀ (f n : Nat) (l : List UInt8),74 <= n -> l.length <= f -> 74 * (Tt.foldGo f n l).length <= 77 * l.length + 148
 | 0,_,l,_,hf => by rw [Tt.foldGo,xb];simp only [xd,xf];omega
 | f + 1,n,l,hn,hf => by
  rw [Tt.foldGo];split
  ·have h:=foldGo_len f 74 (l.drop n) (xc _) (by simp;omega);simp only [xb,xd,xf,xx,List.length_drop] at h ⊢;omega
  ·simp only [xb,xd,xf];omega
theorem fold_len (l : List UInt8) : 74 * (Tt.fold l).length <= 77 * l.length + 148:=foldGo_len _ _ l (by omega) (xc _)
theorem flat_small : ∀ ls : List (List UInt8),(∀ x ∈ ls,x.length <= 3000) -> (ls.flatMap Tt.fold).length <= ls.length * 3124
 | [],_ => xn _
 | a :: r,h => by
  rw [List.flatMap_cons,xb,xd,Nat.succ_mul];have h1:=fold_len a;have h2:=flat_small r (fun x hx => h x (List.mem_cons_of_mem _ hx));have h3:=h a (List.mem_cons_self ..);omega
theorem feedT_small {n z : ByteArray} {v : Int} {es : List Ev} (hv : feedV n v es = 0) (hz : Tt.code z.data.toList = true) (hl : es.length <= 4) : (feedT n.data.toList v es z.data.toList).length <= 262144:=by
 obtain ⟨h1, -⟩:=feedL_lines hv hz;have h2:=flat_small (feedL n.data.toList v es z.data.toList) (fun x hx => by
  have:=h1 (str x) (xk hx);rwa [show (str x).size = x.length from size_mk x] at this)
 have h3 : (feedL n.data.toList v es z.data.toList).length <= 58:=by
  unfold feedL headL;simp only [xb,xd,xf];have:=flat_len z.data.toList es;omega
 unfold feedT;omega
def SV (n : ByteArray) (v : Int) (es : List Ev) (z : ByteArray) : ByteArray:=str (feedT n.data.toList v es z.data.toList)
def st (k : Int) : Stp:=⟨k,0,0,⟨#[]⟩,0,[]⟩
def stP (n : ByteArray) (v : Int) (es : List Ev) : Stp:=⟨1,0,0,n,v,es⟩
theorem parseV_e (z : ByteArray) : (parseV ⟨#[]⟩ z).2 ≠ 0:=by
 rw [parseV_none (by decide) (by rfl)];show (4 : Int) ≠ 0
 decide
theorem doV_ok {W : Wld} {s : Stp} {X : (Wld × List Nte) × Int} (hV : ValidW W) (h1 : 1 <= s.kind) (h7 : s.kind <= 7) (hX : methV W s = X) (h0 : X.2 = 0) : doV W s = X:=by
 unfold doV;rw [if_neg (by rw [(validW_iff W).2 hV];decide),if_neg (by omega),hX,if_neg (by rw [h0];decide)]
theorem stepV_ok {W : Wld} {ns : List Nte} {cs : List Int} {s : Stp} {X : (Wld × List Nte) × Int} (h : doV W s = X) (h0 : X.2 = 0) : stepV ((W,ns),cs) s = ((X.1.1,ns ++ X.1.2),cs ++ [0]):=by
 unfold stepV;show (if (doV W s).2 = 0 then _ else _) = _
 rw [if_pos (by rw [h];exact h0),h]
theorem meth1 {W : Wld} {s : Stp} (h : s.kind = 1) : methV W s = (((pubV W s).1,[]),(pubV W s).2):=by unfold methV;rw [if_pos h]
theorem meth4 {W : Wld} {s : Stp} (h : s.kind = 4) : methV W s = delV W [] s:=by unfold methV;rw [if_neg (by omega),if_neg (by omega),if_neg (by omega),if_pos h]
theorem meth7 {W : Wld} {s : Stp} (h : s.kind = 7) : methV W s = (((cutW W s).1,[]),(cutW W s).2):=by unfold methV;rw [if_neg (by omega),if_neg (by omega),if_neg (by omega),if_neg (by omega),if_neg (by omega),if_neg (by omega)]
theorem tag_ne {s : ByteArray} {v : Int} (hv : 0 <= v) : tagV s v ≠ 0:=by
 have:=sumV_rng s.data.toList;unfold tagV;omega
section
variable {n z : ByteArray} {v : Int} {es : List Ev}
theorem sv_parse (hv : feedV n v es = 0) (hz : Tt.code z.data.toList = true) (hl : es.length <= 4) : parseV (SV n v es z) z = ((n,v,es),0):=parseV_text hv hz (feedT_small hv hz hl)
theorem sv_ne (hv : feedV n v es = 0) (hz : Tt.code z.data.toList = true) (hl : es.length <= 4) : SV n v es z ≠ ⟨#[]⟩:=fun h => by
 have h1:=sv_parse hv hz hl;rw [h] at h1;exact parseV_e z (by rw [h1])
theorem sv_form (hv : feedV n v es = 0) (hz : Tt.code z.data.toList = true) (hl : es.length <= 4) : formatV n v es z = (feedT n.data.toList v es z.data.toList,0):=by
 have h:=feedT_small hv hz hl;unfold formatV;rw [if_neg (by simp [hv]),if_neg (by simp [hz]),if_neg (by omega)]
theorem vw (hv : feedV n v es = 0) (hz : Tt.code z.data.toList = true) (hl : es.length <= 4) (way : List Msg) (r : Rdr) (hw : way.length <= 64) (hm : ∀ m ∈ way,msgOk 1 m = true) (hr : rdOk r.v r.es = true) : ValidW ⟨z,SV n v es z,way,[r]⟩ :=
 ⟨hz,hw,xc _,by show 1 <= 24;decide,.inr (by rw [show (⟨z,SV n v es z,way,[r]⟩ : Wld).cur = SV n v es z from rfl,show (⟨z,SV n v es z,way,[r]⟩ : Wld).zone = z from rfl,sv_parse hv hz hl]),hm,fun x hx => by rw [xa.1 hx];exact hr⟩
theorem rd0 : rdOk 0 [] = true:=(rdOk_iff 0 []).2 ⟨by omega,by omega,by simp,by unfold evsV;rfl⟩
theorem vw0 (hz : Tt.code z.data.toList = true) : ValidW (newW z) :=
 ⟨hz,by show 0 <= 64;decide,xc _,by show 1 <= 24;decide,.inl rfl,fun m hm => (by cases hm),fun x hx => by rw [xa.1 hx];exact rd0⟩
theorem rd1 (hv : feedV n v es = 0) (hl : es.length <= 4) : rdOk v (mrg [] es).1 = true:=by
 obtain ⟨v0,v1, -,hev⟩:=feedV_ok hv;have h1:=mrg_len [] es es.length (xc _);have h2:=mrg_ok (rv:=0) (es:=[]) v0 (by unfold evsV;rfl) hev es.length;rw [mrg_all] at h1 h2;exact (rdOk_iff _ _).2 ⟨v0,v1,by have:=h1.1;simp only [xf] at this;omega,h2⟩
theorem now_eq (hv : feedV n v es = 0) (hz : Tt.code z.data.toList = true) (hl : es.length <= 4) (way : List Msg) (rs : List Rdr) : nowW ⟨z,SV n v es z,way,rs⟩ = tagV (SV n v es z) v:=by
 unfold nowW verW;rw [if_neg (sv_ne hv hz hl)];show tagV (SV n v es z) (parseV (SV n v es z) z).1.2.1 = _
 rw [sv_parse hv hz hl]
theorem do_pub (hv : feedV n v es = 0) (hz : Tt.code z.data.toList = true) (hl : es.length <= 4) : doV (newW z) (stP n v es) = ((⟨z,SV n v es z,[],[⟨0,0,[]⟩]⟩,[]),0):=by
 refine doV_ok (vw0 hz) (by show (1 : Int) <= 1;decide) (by show (1 : Int) <= 7;decide) ?_ rfl;have h : pubV (newW z) (stP n v es) = (⟨z,SV n v es z,[],[⟨0,0,[]⟩]⟩,0):=by
  unfold pubV;rw [show formatV (stP n v es).fn (stP n v es).fv (stP n v es).es (newW z).zone = _ from sv_form hv hz hl,if_neg (fun h => h rfl),if_pos (show (newW z).cur = ⟨#[]⟩ from rfl)];rfl
 rw [meth1 rfl,h]
theorem do_ask (hv : feedV n v es = 0) (hz : Tt.code z.data.toList = true) (hl : es.length <= 4) (r : Rdr) (hr : rdOk r.v r.es = true) : doV ⟨z,SV n v es z,[],[r]⟩ (st 2) = ((⟨z,SV n v es z,[⟨0,false,r.tag,⟨#[]⟩⟩],[r]⟩,[]),0):=by
 refine doV_ok (vw hv hz hl [] r (by simp) (by simp) hr) (by show (1 : Int) <= 2;decide) (by show (2 : Int) <= 7;decide) ?_ rfl;rfl
theorem do_serve (hv : feedV n v es = 0) (hz : Tt.code z.data.toList = true) (hl : es.length <= 4) (r : Rdr) (hr : rdOk r.v r.es = true) (t : Int) : doV ⟨z,SV n v es z,[⟨0,false,t,⟨#[]⟩⟩],[r]⟩ (st 3) = ((⟨z,SV n v es z,[⟨0,true,tagV (SV n v es z) v,if t = tagV (SV n v es z) v then ⟨#[]⟩ else SV n v es z⟩],[r]⟩,[]),0):=by
 refine doV_ok (vw hv hz hl _ r (by simp) (by simp [msgOk]) hr) (by show (1 : Int) <= 3;decide) (by show (3 : Int) <= 7;decide) ?_ rfl;show (((serveV _ _).1,[]),(serveV _ _).2) = _
 have h : serveV ⟨z,SV n v es z,[⟨0,false,t,⟨#[]⟩⟩],[r]⟩ (st 3) = (⟨z,SV n v es z,[serveM ⟨z,SV n v es z,[⟨0,false,t,⟨#[]⟩⟩],[r]⟩ ⟨0,false,t,⟨#[]⟩⟩],[r]⟩,0):=rfl;rw [h];unfold serveM;rw [now_eq hv hz hl]
theorem do_del (hv : feedV n v es = 0) (h1 : 1 <= v) (hz : Tt.code z.data.toList = true) (hl : es.length <= 4) : doV ⟨z,SV n v es z,[⟨0,true,tagV (SV n v es z) v,SV n v es z⟩],[⟨0,0,[]⟩]⟩ (st 4) = ((⟨z,SV n v es z,[],[⟨v,tagV (SV n v es z) v,(mrg [] es).1⟩]⟩,(mrg [] es).2.map (Nte.mk 0)),0):=by
 refine doV_ok (vw hv hz hl _ _ (by simp) (by simp [msgOk]) rd0) (by show (1 : Int) <= 4;decide) (by show (4 : Int) <= 7;decide) ?_ rfl;rw [meth4 rfl];have h : delV ⟨z,SV n v es z,[⟨0,true,tagV (SV n v es z) v,SV n v es z⟩],[⟨0,0,[]⟩]⟩ [] (st 4) = (((delM ⟨z,SV n v es z,[],[⟨0,0,[]⟩]⟩ ⟨0,true,tagV (SV n v es z) v,SV n v es z⟩).1,[] ++ (delM ⟨z,SV n v es z,[],[⟨0,0,[]⟩]⟩ ⟨0,true,tagV (SV n v es z) v,SV n v es z⟩).2),0):=rfl;rw [h];have hm:=first_merge (t:=0) hv h1 hl;have hd : delM ⟨z,SV n v es z,[],[⟨0,0,[]⟩]⟩ ⟨0,true,tagV (SV n v es z) v,SV n v es z⟩ = (⟨z,SV n v es z,[],[⟨v,tagV (SV n v es z) v,(mrg [] es).1⟩]⟩,(mrg [] es).2.map (Nte.mk 0)):=by
  unfold delM;dsimp only
  rw [sv_parse hv hz hl];dsimp only
  rw [if_neg (by simp)];show (if _ then _ else _) = _
  rw [hm];dsimp only
  rw [if_neg (by decide),if_pos (by omega)];rfl
 rw [hd];rfl
theorem known_run (hv : feedV n v es = 0) (h1 : 1 <= v) (hz : Tt.code z.data.toList = true) (hl : es.length <= 4) :
  runW (newW z) [stP n v es] = ((⟨z,SV n v es z,[],[⟨0,0,[]⟩]⟩,[]),[0]) /\
  runW (newW z) [stP n v es,st 2] = ((⟨z,SV n v es z,[⟨0,false,0,⟨#[]⟩⟩],[⟨0,0,[]⟩]⟩,[]),[0,0]) /\
  runW (newW z) [stP n v es,st 2,st 3] = ((⟨z,SV n v es z,[⟨0,true,tagV (SV n v es z) v,SV n v es z⟩],[⟨0,0,[]⟩]⟩,[]),[0,0,0]) /\
  runW (newW z) [stP n v es,st 2,st 3,st 4] = ((⟨z,SV n v es z,[],[⟨v,tagV (SV n v es z) v,(mrg [] es).1⟩]⟩,(mrg [] es).2.map (Nte.mk 0)),[0,0,0,0]) /\
  runW (newW z) [stP n v es,st 2,st 3,st 4,st 2] = ((⟨z,SV n v es z,[⟨0,false,tagV (SV n v es z) v,⟨#[]⟩⟩],[⟨v,tagV (SV n v es z) v,(mrg [] es).1⟩]⟩,(mrg [] es).2.map (Nte.mk 0)),[0,0,0,0,0]) /\
  runW (newW z) [stP n v es,st 2,st 3,st 4,st 2,st 3] = ((⟨z,SV n v es z,[⟨0,true,tagV (SV n v es z) v,⟨#[]⟩⟩],[⟨v,tagV (SV n v es z) v,(mrg [] es).1⟩]⟩,(mrg [] es).2.map (Nte.mk 0)),[0,0,0,0,0,0]):=by
 have hr:=rd1 hv hl;have e1 : runW (newW z) [stP n v es] = ((⟨z,SV n v es z,[],[⟨0,0,[]⟩]⟩,[]),[0]):=by
  rw [show [stP n v es] = [] ++ [stP n v es] from rfl,runW_snoc,runW_nil,stepV_ok (do_pub hv hz hl) rfl];rfl
 have e2 : runW (newW z) [stP n v es,st 2] = ((⟨z,SV n v es z,[⟨0,false,0,⟨#[]⟩⟩],[⟨0,0,[]⟩]⟩,[]),[0,0]):=by
  rw [show [stP n v es,st 2] = [stP n v es] ++ [st 2] from rfl,runW_snoc,e1,stepV_ok (do_ask hv hz hl _ rd0) rfl];rfl
 have e3 : runW (newW z) [stP n v es,st 2,st 3] = ((⟨z,SV n v es z,[⟨0,true,tagV (SV n v es z) v,SV n v es z⟩],[⟨0,0,[]⟩]⟩,[]),[0,0,0]):=by
  rw [show [stP n v es,st 2,st 3] = [stP n v es,st 2] ++ [st 3] from rfl,runW_snoc,e2,stepV_ok (do_serve hv hz hl _ rd0 _) rfl,if_neg (fun h => tag_ne (by omega) h.symm)];rfl
 have e4 : runW (newW z) [stP n v es,st 2,st 3,st 4] = ((⟨z,SV n v es z,[],[⟨v,tagV (SV n v es z) v,(mrg [] es).1⟩]⟩,(mrg [] es).2.map (Nte.mk 0)),[0,0,0,0]):=by
  rw [show [stP n v es,st 2,st 3,st 4] = [stP n v es,st 2,st 3] ++ [st 4] from rfl,runW_snoc,e3,stepV_ok (do_del hv h1 hz hl) rfl];rfl
 have e5 : runW (newW z) [stP n v es,st 2,st 3,st 4,st 2] = ((⟨z,SV n v es z,[⟨0,false,tagV (SV n v es z) v,⟨#[]⟩⟩],[⟨v,tagV (SV n v es z) v,(mrg [] es).1⟩]⟩,(mrg [] es).2.map (Nte.mk 0)),[0,0,0,0,0]):=by
  rw [show [stP n v es,st 2,st 3,st 4,st 2] = [stP n v es,st 2,st 3,st 4] ++ [st 2] from rfl,runW_snoc,e4,stepV_ok (do_ask hv hz hl _ hr) rfl,xz];rfl
 refine ⟨e1,e2,e3,e4,e5,?_⟩;rw [show [stP n v es,st 2,st 3,st 4,st 2,st 3] = [stP n v es,st 2,st 3,st 4,st 2] ++ [st 3] from rfl,runW_snoc,e5,stepV_ok (do_serve hv hz hl _ hr _) rfl,if_pos rfl,xz];rfl
end
end Go.Proofs.YtcomifbfldoeiaaGreatDoor
