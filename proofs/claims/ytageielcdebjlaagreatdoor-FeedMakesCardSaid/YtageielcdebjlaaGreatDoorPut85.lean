/- timetableref40.Put: its contract: the event laid in, in new memory. -/
import Derived.Test.YtageielcdebjlaaGreatDoorPk9
import Derived.Test.YtageielcdebjlaaGreatDoorPk8
import Derived.Deep.CutBlock
namespace Go.Proofs.YtageielcdebjlaaGreatDoor
open Go.RowKit
theorem lessU_of (a b : ByteArray) (c : Bool) (h : lessU a b = c) : Op.bytesLess a.toList b.toList = c:=h
set_option maxHeartbeats 16000000 in
set_option maxRecDepth 100000 in
theorem put85 (e : Ev) (p p2 : Option Addr) (k1 k2 : Nat) (ao : Option Addr) (c : Nat) (ts : List (Ev × Value × Value)) (B : Nat) (w : World) (hB : B <= w.heap.size) (hS : Seg B w ao ts) (hnil : ao = none -> c = 0) (hnc : ts.length <= c) (hn : ts.length <= 1000000) (_hT : RefS B w (e,(.slice p e.days.ex.length k1),(.slice p2 e.days.xt.length k2))) :
    Calls Tryz.prog 85 #[.slice ao ts.length c,evVal e (.slice p e.days.ex.length k1) (.slice p2 e.days.xt.length k2)] w fun x w' => ∃ u,x = .returned u /\ w'.ownsRow w.heap.size 82 13 u (putT (e,(.slice p e.days.ex.length k1),(.slice p2 e.days.xt.length k2)) ts).length (tCells (putT (e,(.slice p e.days.ex.length k1),(.slice p2 e.days.xt.length k2)) ts)) /\ Below w.heap.size w w':=by
  obtain ⟨i0,hi,hz0,hz1,hz2⟩:=info_parts infoEv;obtain ⟨w0,hw0⟩ : ∃ w0,w0 = w.alloc (.cells (evCells e (.slice p e.days.ex.length k1) (.slice p2 e.days.xt.length k2)) 82):=⟨_,rfl⟩
  have hsz : w0.heap.size = w.heap.size + 1:=by rw [hw0];simp
  have HB0:=Lh (show Blk w.heap.size (evCells e (.slice p e.days.ex.length k1) (.slice p2 e.days.xt.length k2)) 82 w0 from by rw [hw0];exact Blk.new w _ _);have HL0:=Lh (show Below w.heap.size w w0 from by rw [hw0];exact below_box w _);have HG0:=Lh (hS.below (HL0.out.mono hB));obtain ⟨n,hne⟩ : ∃ n,n = ts.length:=⟨_,rfl⟩
  rw [<- hne] at hn hnc ⊢;have HN:=Lh hne;have HSZ:=Lh hsz;have hsz1 : w.heap.size < w0.heap.size:=by omega
  have hBw : B <= w0.heap.size:=by omega
  clear hne hS _hT hsz;unfold evVal;unfold evCells at hw0 ⊢;have HW0:=Lh hw0;clear hw0;go_enter Tryz.func85,Tryz.ntmps85;go_upto_region 1 with (fail);rw [<- HW0.out];clear HW0;go_upto_block 0 with fail
  go_cut [5] (fun s5 wx => ∃ k : Nat,s5 = .int .i64 k /\ k <= n /\ Hid (AheadT (e,(.slice p e.days.ex.length k1),(.slice p2 e.days.xt.length k2)) ts k) /\ Hid (k = n ∨ ∃ s,ts[k]? = some s /\ lessU s.1.uid e.uid = false) /\ Hid (Below w0.heap.size w0 wx))
  case first =>
    go_wp2_with fail;go_loopw [5] (fun iv wr => ∃ k : Nat,iv = .int .i64 k /\ k <= n /\ Hid (AheadT (e,(.slice p e.days.ex.length k1),(.slice p2 e.days.xt.length k2)) ts k) /\ Hid (Below w0.heap.size w0 wr)) (fun iv _ => n - (intOf iv).toNat)
    case atStart => exact ⟨0,rfl,Nat.zero_le _,Lh (fun j s h => absurd h (Nat.not_lt_zero _)),Lh (Below.refl _ _)⟩
    case round =>
      obtain ⟨k,rfl,hk,HA,HL⟩:=hrel;by_cases hlt : k < n
      · have hlti : (k : Int) < n:=by omega
        obtain ⟨s,hs⟩ : ∃ s,ts[k]? = some s:=⟨_,List.getElem?_eq_getElem (by rw [<- HN.out];exact hlt)⟩
        have hsg:=HG0.out.below (HL.out.mono hBw);obtain ⟨bo,oo,hao,hbo,hco⟩ : ∃ b o,ao = some ⟨b,o,none⟩ /\ b < B /\ ∀ (j : Nat) (u : Value),(tCells ts)[j]? = some u -> wr.cell? ⟨b,o + j,none⟩ = some u:=by
          rcases hsg.at' with h | h
          · rw [h] at hs;simp at hs
          · exact h
        subst hao;have c0:=(seg_c hco k _ hs).c0;have y0 : wr.cell? ⟨w.heap.size,0,none⟩ = some (.string e.uid):=Blk.cell (HB0.out.below HL.out hsz1) 0;have HS:=Lh hs;clear hco hsg;by_cases hl : lessU s.1.uid e.uid = true
        · have hb:=lessU_of _ _ _ hl;have HA2:=Lh (show AheadT (e,(.slice p e.days.ex.length k1),(.slice p2 e.days.xt.length k2)) ts (k + 1) from fun j u hj hu => by
            rcases Nat.lt_or_eq_of_le (Nat.le_of_lt_succ hj) with h | h
            · exact HA.out j u h hu
            · subst h;rw [HS.out] at hu;cases hu;exact hl)
          clear hl hs;go_wp2_with fail;go_quiet (fail)
          go_wp2_with fail;go_roundw
          case rel => exact ⟨k + 1,by go_num,by omega,HA2,Lh (below_drewN HL.out _)⟩
          case measure => simp [intOf];omega
        · have hl : lessU s.1.uid e.uid = false:=by simpa using hl
          have hb:=lessU_of _ _ _ hl;have HC:=Lh (show k = n ∨ ∃ s,ts[k]? = some s /\ lessU s.1.uid e.uid = false from .inr ⟨s,HS.out,hl⟩);clear hl hs;go_wp2_with fail;go_quiet (fail)
          go_wp2_with fail;go_meet;exact ⟨k,rfl,hk,HA,HC,Lh (below_drewN HL.out _)⟩
      · have hlti : ¬ (k : Int) < n:=by omega
        have hkn : k = n:=by omega
        have HC:=Lh (show k = n ∨ ∃ s,ts[k]? = some s /\ lessU s.1.uid e.uid = false from .inl hkn);clear hkn;go_wp2_with fail;go_quiet (fail)
        go_wp2_with fail;go_meet;exact ⟨k,rfl,hk,HA,HC,Lh (below_drewN HL.out _)⟩
  case rest =>
    obtain ⟨k,rfl,hk,HA,HC,HL⟩:=hcut;have hwr:=HL.out.size;have HB:=Lh (HB0.out.below HL.out hsz1);have HG:=Lh (HG0.out.below (HL.out.mono hBw));have hBr : B <= wc.heap.size:=by omega
    have HKL:=Lh (show (ts.take k).length = k from by rw [List.length_take,<- HN.out];omega);have HKT:=Lh (show k <= ts.length from by rw [<- HN.out];exact hk);have hki : (k : Int) <= n:=by omega
    have hkc : (k : Int) <= c:=by omega
    go_wp2_with fail;go_cut [6] (fun s6 wx => ∃ v6,s6 = v6 /\ Hid (wx.ownsRow w0.heap.size 82 13 v6 (k + 1) (tCells (ts.take k) ++ (evCells e (.slice p e.days.ex.length k1) (.slice p2 e.days.xt.length k2)).toList)) /\ Hid (Below w0.heap.size w0 wx))
    case first =>
      refine wp_region_tail 6 (by kernel_rfl) (fun listed a x => ∃ (l0 l1 l2 l3 l4 l5 : Bool) (t23 t24 t25 t26 t27 t28 : Value),listed = #[l0,l1,l2,l3,l4,l5,false,false] /\ a = ⟨(.slice ao n c :: .agg #[.string e.uid,.int .i64 e.seq,.bool e.canc,.int .i64 e.days.first,.int .i64 e.days.last,.int .i64 e.days.every,.int .i64 e.days.wd,.slice p e.days.ex.length k1,.slice p2 e.days.xt.length k2,.int .i64 e.start,.int .i64 e.mins,.string e.summ,.string e.loc] :: undef :: .pointer (some ⟨w.heap.size,0,none⟩) :: .slice none 0 0 :: .int .i64 k :: undef :: u7 :: u8 :: u9 :: u10 :: u11 :: u12 :: u13 :: u14 :: u15 :: u16 :: u17 :: u18 :: u19 :: u20 :: u21 :: u22 :: t23 :: t24 :: t25 :: t26 :: t27 :: t28 :: undef :: undef :: undef :: undef :: undef :: undef :: undef :: undef :: undef :: undef :: undef :: undef :: undef :: undef :: undef :: undef :: undef :: undef :: undef :: undef :: undef :: undef :: []).toArray,[]⟩ /\ Hid (l0 = true -> t23 = .slice ao n c) /\ Hid (l1 = true -> t24 = .int .i64 k) /\ Hid (l2 = true -> t25 = .slice ao k c) /\ Hid (l3 = true -> ∃ (v3 : Value),t26 = v3 /\ x.ownsRow w0.heap.size 82 13 v3 k (tCells (ts.take k))) /\ Hid (l4 = true -> t27 = .agg #[.string e.uid,.int .i64 e.seq,.bool e.canc,.int .i64 e.days.first,.int .i64 e.days.last,.int .i64 e.days.every,.int .i64 e.days.wd,.slice p e.days.ex.length k1,.slice p2 e.days.xt.length k2,.int .i64 e.start,.int .i64 e.mins,.string e.summ,.string e.loc]) /\ Hid (l5 = true -> ∃ (g : Nat),t28 = .slice (some ⟨g,0,none⟩) 1 1 /\ wc.heap.size <= g /\ Blk g (evCells e (.slice p e.days.ex.length k1) (.slice p2 e.days.xt.length k2)) 82 x) /\ Hid (Made wc x)) (by decide) (by kernel_rfl) (by kernel_rfl) ?_ ?_ ?_ ?_
      · exact ⟨false,false,false,false,false,false,_,_,_,_,_,_,rfl,rfl,Lh (fun h => by cases h),Lh (fun h => by cases h),Lh (fun h => by cases h),Lh (fun h => by cases h),Lh (fun h => by cases h),Lh (fun h => by cases h),Lh (Made.start wc)⟩
      · intro listed a x hj;obtain ⟨l0,l1,l2,l3,l4,l5,hj⟩:=hj;obtain ⟨t23,t24,t25,t26,t27,t28,hj⟩:=hj;obtain ⟨h1, -⟩:=hj;subst h1;exact ⟨rfl,fun k h1 h2 => by (have h2 : k < 8:=h2);rcases (show k = 6 ∨ k = 7 by omega) with rfl | rfl <;> rfl⟩
      · intro listed a x i hj hlt hu haf;obtain ⟨l0,l1,l2,l3,l4,l5,hj⟩:=hj;obtain ⟨t23,t24,t25,t26,t27,t28,hj⟩:=hj;obtain ⟨hl_,ha_,H0,H1,H2,H3,hj⟩:=hj;obtain ⟨H4,H5,hj⟩:=hj;have HS:=hj;clear hj;subst hl_;subst ha_;rcases (show ∀ i : Nat,i < 6 -> (i = 0 ∨ i = 1 ∨ i = 2 ∨ i = 3 ∨ i = 4 ∨ i = 5) by decide) i hlt with rfl | rfl | rfl | rfl | rfl | rfl
        · have haf:=haf _ rfl;clear haf;have hu : l0 = false:=hu;refine wpOp_of_list_any rfl fun QQ hQ => ?_
          have hQQ:=Lh hQ;clear hQ;simp only [List.getElem_toArray,List.getElem_cons_zero];go_wp2_with fail;exact hQQ.out _ _ ⟨true,l1,l2,l3,l4,l5,_,_,_,_,_,_,rfl,rfl,Lh (fun _ => rfl),H1,H2,H3,H4,H5,HS⟩
        · have haf:=haf _ rfl;clear haf;have hu : l1 = false:=hu;refine wpOp_of_list_any rfl fun QQ hQ => ?_
          have hQQ:=Lh hQ;clear hQ;simp only [List.getElem_toArray,List.getElem_cons_zero,List.getElem_cons_succ];go_wp2_with fail;exact hQQ.out _ _ ⟨l0,true,l2,l3,l4,l5,_,_,_,_,_,_,rfl,rfl,H0,Lh (fun _ => rfl),H2,H3,H4,H5,HS⟩
        · have haf:=haf _ rfl;have q0 : l0 = true:=haf ⟨0,Go.Ground.data⟩ (by simp) rfl;have q1 : l1 = true:=haf ⟨1,Go.Ground.data⟩ (by simp) rfl;clear haf;have hu : l2 = false:=hu;have e0:=(H0.out q0)
          subst e0;clear H0;have e1:=(H1.out q1)
          subst e1;clear H1;refine wpOp_of_list_any rfl fun QQ hQ => ?_
          have hQQ:=Lh hQ;clear hQ;simp only [List.getElem_toArray,List.getElem_cons_zero,List.getElem_cons_succ];go_wp2_with fail;exact hQQ.out _ _ ⟨l0,l1,true,l3,l4,l5,_,_,_,_,_,_,rfl,rfl,Lh (fun _ => rfl),Lh (fun _ => rfl),Lh (fun _ => rfl),H3,H4,H5,HS⟩
        · have haf:=haf _ rfl;have q2 : l2 = true:=haf ⟨2,Go.Ground.data⟩ (by simp) rfl;clear haf;have hu : l3 = false:=hu;have e2:=(H2.out q2)
          subst e2;clear H2;refine wpOp_of_list_any rfl fun QQ hQ => ?_
          have hQQ:=Lh hQ;clear hQ;simp only [List.getElem_toArray,List.getElem_cons_zero,List.getElem_cons_succ];go_wp2_with (at_builtin;refine wpList_append_seg rfl (.const (.slice none 0 0)) (.tmp 25) 22 rfl w0.heap.size i0 _ 160 Tryz.underlying22 hi hz0 hz1 hz2 rfl (.slice none 0 0) 0 [] rfl (World.ownsRow_nil _ _ _ _) B ao c (ts.take k) (by rw [HKL.out];rfl) ((HG.out.below (HS.out.below.mono hBr)).take k HKT.out) hnil (by rw [HKL.out];unfold maxLen;omega) (by rw [HKL.out];omega) (by have:=HS.out.below.size;omega) ?_);intro v3 x1 hown hgrow _;have hk:=Kept.grown0 (B:=wc.heap.size) hgrow;have HS1:=Lh (HS.out.then (⟨hgrow.os,hgrow.tape,hgrow.output,hgrow.size,fun j hj => hgrow.block j hj (by simp [Value.ownBlock])⟩));have HX1:=Lh (show x1.ownsRow w0.heap.size 82 13 v3 k (tCells (ts.take k)) from by simpa [Nat.min_eq_left HKT.out] using hown);clear hown hgrow;go_wp2_with fail;exact hQQ.out _ _ ⟨l0,l1,l2,true,l4,l5,_,_,_,_,_,_,rfl,rfl,H0,H1,Lh (fun _ => rfl),Lh (fun _ => ⟨_,rfl,HX1.out⟩),H4,Lh (fun h => (by obtain ⟨g,e,c0,c1⟩:=H5.out h;exact ⟨g,e,c0,(hk _ _ _ c0 c1)⟩)),HS1⟩
        · have haf:=haf _ rfl;clear haf;have hu : l4 = false:=hu;have y0 : x.cell? ⟨w.heap.size,0,none⟩ = some (.string e.uid):=(HS.out.blk HB.out).cell 0;have y1 : x.cell? ⟨w.heap.size,1,none⟩ = some (.int .i64 e.seq):=(HS.out.blk HB.out).cell 1;have y2 : x.cell? ⟨w.heap.size,2,none⟩ = some (.bool e.canc):=(HS.out.blk HB.out).cell 2;have y3 : x.cell? ⟨w.heap.size,3,none⟩ = some (.int .i64 e.days.first):=(HS.out.blk HB.out).cell 3;have y4 : x.cell? ⟨w.heap.size,4,none⟩ = some (.int .i64 e.days.last):=(HS.out.blk HB.out).cell 4;have y5 : x.cell? ⟨w.heap.size,5,none⟩ = some (.int .i64 e.days.every):=(HS.out.blk HB.out).cell 5;have y6 : x.cell? ⟨w.heap.size,6,none⟩ = some (.int .i64 e.days.wd):=(HS.out.blk HB.out).cell 6;have y7 : x.cell? ⟨w.heap.size,7,none⟩ = some (.slice p e.days.ex.length k1):=(HS.out.blk HB.out).cell 7;have y8 : x.cell? ⟨w.heap.size,8,none⟩ = some (.slice p2 e.days.xt.length k2):=(HS.out.blk HB.out).cell 8;have y9 : x.cell? ⟨w.heap.size,9,none⟩ = some (.int .i64 e.start):=(HS.out.blk HB.out).cell 9;have y10 : x.cell? ⟨w.heap.size,10,none⟩ = some (.int .i64 e.mins):=(HS.out.blk HB.out).cell 10;have y11 : x.cell? ⟨w.heap.size,11,none⟩ = some (.string e.summ):=(HS.out.blk HB.out).cell 11;have y12 : x.cell? ⟨w.heap.size,12,none⟩ = some (.string e.loc):=(HS.out.blk HB.out).cell 12;refine wpOp_of_list_any rfl fun QQ hQ => ?_
          have hQQ:=Lh hQ;clear hQ;simp only [List.getElem_toArray,List.getElem_cons_zero,List.getElem_cons_succ];go_wp2_with fail;exact hQQ.out _ _ ⟨l0,l1,l2,l3,true,l5,_,_,_,_,_,_,rfl,rfl,H0,H1,H2,H3,Lh (fun _ => rfl),H5,HS⟩
        · have haf:=haf _ rfl;have q4 : l4 = true:=haf ⟨4,Go.Ground.data⟩ (by simp) rfl;clear haf;have hu : l5 = false:=hu;have e4:=(H4.out q4)
          subst e4;clear H4;refine wpOp_of_list_any rfl fun QQ hQ => ?_
          have hQQ:=Lh hQ;clear hQ;simp only [List.getElem_toArray,List.getElem_cons_zero,List.getElem_cons_succ];go_wp2_with fail;exact hQQ.out _ _ ⟨l0,l1,l2,l3,l4,true,_,_,_,_,_,_,rfl,rfl,H0,H1,H2,Lh (fun h => (by obtain ⟨v3,e,c0⟩:=H3.out h;exact ⟨v3,e,(row_kept c0 (Kept.alloc _ x _))⟩)),Lh (fun _ => rfl),Lh (fun _ => ⟨_,rfl,HS.out.below.size,Blk.new x _ _⟩),Lh (HS.out.alloc _)⟩
      · intro listed a x hj hall;obtain ⟨l0,l1,l2,l3,l4,l5,hj⟩:=hj;obtain ⟨t23,t24,t25,t26,t27,t28,hj⟩:=hj;obtain ⟨hl_,ha_,H0,H1,H2,H3,hj⟩:=hj;obtain ⟨H4,H5,hj⟩:=hj;have HS:=hj;clear hj;subst hl_;subst ha_;have q3 : l3 = true:=hall 3 (by omega);have q5 : l5 = true:=hall 5 (by omega);clear hall;obtain ⟨v33,e3,c3_0⟩:=(H3.out q3)
        subst e3;obtain ⟨g5,e5,c5_0,c5_1⟩:=(H5.out q5)
        subst e5;refine tail_any (fun a x => ∃ (t6 t23 t24 t25 t26 t27 t28 t29 : Value),a = ⟨(.slice ao n c :: .agg #[.string e.uid,.int .i64 e.seq,.bool e.canc,.int .i64 e.days.first,.int .i64 e.days.last,.int .i64 e.days.every,.int .i64 e.days.wd,.slice p e.days.ex.length k1,.slice p2 e.days.xt.length k2,.int .i64 e.start,.int .i64 e.mins,.string e.summ,.string e.loc] :: undef :: .pointer (some ⟨w.heap.size,0,none⟩) :: .slice none 0 0 :: .int .i64 k :: t6 :: u7 :: u8 :: u9 :: u10 :: u11 :: u12 :: u13 :: u14 :: u15 :: u16 :: u17 :: u18 :: u19 :: u20 :: u21 :: u22 :: t23 :: t24 :: t25 :: t26 :: t27 :: t28 :: t29 :: undef :: undef :: undef :: undef :: undef :: undef :: undef :: undef :: undef :: undef :: undef :: undef :: undef :: undef :: undef :: undef :: undef :: undef :: undef :: undef :: undef :: []).toArray,[]⟩ /\ ∃ v6,t6 = v6 /\ x.ownsRow w0.heap.size 82 13 v6 (k + 1) (tCells (ts.take k) ++ (evCells e (.slice p e.days.ex.length k1) (.slice p2 e.days.xt.length k2)).toList) /\ Below w0.heap.size w0 x) ?_ fun QQ hQ => ?_
        · intro a x hpost;obtain ⟨t6,t23,t24,t25,t26,t27,hpost⟩:=hpost;obtain ⟨t28,t29,ha_,hpost⟩:=hpost;subst ha_;obtain ⟨v6,rfl,p1,p2⟩:=hpost;go_wp2_with fail;go_meet;exact ⟨_,rfl,Lh p1,Lh p2⟩
        have hQQ:=Lh hQ;clear hQ;simp only [List.drop_succ_cons,List.drop_zero];go_wp2_with (at_builtin;refine wpList_append_own_at _ rfl (.tmp 26) (.tmp 28) 22 rfl w0.heap.size 82 i0 _ 13 160 Tryz.underlying22 hi hz0 hz1 hz2 rfl (by decide) _ _ _ rfl c3_0 ⟨g5,0,none⟩ 1 1 _ rfl rfl (blk_cells c5_1) (evCells_one _ _ _ _ _ _ _) (by unfold maxLen;omega) (by omega) (by have:=HS.out.below.size;omega) ?_);intro v' x8 hown8 hgrow _ hat;have HL8:=Lh (below_grownBy (HL.out.trans (HS.out.below.mono hwr)) c3_0 (Nat.le_refl _) (by have:=HS.out.below.size;omega) hgrow);have HO8:=Lh hown8;clear hgrow hown8 hat c3_0 c5_0 c5_1;go_wp2_with fail;exact hQQ.out _ _ ⟨_,_,_,_,_,_,_,_,rfl,_,rfl,HO8.out,HL8.out⟩
    case rest =>
      clear HB HG HL hwr hBr;obtain ⟨v6,rfl,HR,HL⟩:=hcut;have hwy:=HL.out.size;have HG:=Lh (HG0.out.below (HL.out.mono hBw));have y0 : wc.cell? ⟨w.heap.size,0,none⟩ = some (.string e.uid):=Blk.cell (HB0.out.below HL.out hsz1) 0;go_wp2_with fail;rcases HC.out with hkn | ⟨s,hs,hl⟩
      · have hlti : ¬ (k : Int) < n:=by omega
        have HPT:=Lh (show putT (e,(.slice p e.days.ex.length k1),(.slice p2 e.days.xt.length k2)) ts = ts.take k ++ (e,(.slice p e.days.ex.length k1),(.slice p2 e.days.xt.length k2)) :: ts.drop k from by
          have h : k = ts.length:=by rw [<- HN.out];exact hkn
          rw [h,List.take_length,List.drop_length];exact putT_end (e,(.slice p e.days.ex.length k1),(.slice p2 e.days.xt.length k2)) ts (by rw [<- h];exact HA.out))
        have HE:=Lh (show ts.drop k = [] from List.drop_eq_nil_of_le (by rw [<- HN.out];omega));go_quiet (fail)
        cases ao with
        | none =>
          have hc0:=hnil rfl;subst hc0;have hn0 : n = 0:=by omega
          subst hn0;have hk0 : k = 0:=by omega
          subst hk0;clear hkn;have hA1 : 0 + 1 + 0 <= maxLen:=by unfold maxLen;omega
          have hA2 : (0 + 1 + 0) * 160 <= 140737488355328:=by omega
          go_wp2_with (at_builtin;refine wpList_append_seg rfl (.tmp 46) (.tmp 49) 22 rfl w0.heap.size i0 _ 160 Tryz.underlying22 hi hz0 hz1 hz2 rfl _ (0 + 1) _ rfl HR.out B none 0 [] rfl (Seg.nil _ _ _) (by intro h;first | rfl | cases h) hA1 hA2 hwy ?_);intro v' x8 hown8 hgrow _;have HL8:=Lh (below_grownBy HL.out HR.out (Nat.le_refl _) hwy ⟨hgrow.os,hgrow.tape,hgrow.output,hgrow.size,hgrow.block⟩);have HO8:=Lh hown8;clear hgrow hown8;go_wp2_with fail;go_ret;refine ⟨v',rfl,?_,HL0.out.trans (HL8.out.mono (by omega))⟩;rw [HPT.out,tCells_app,show (e,(.slice p e.days.ex.length k1),(.slice p2 e.days.xt.length k2)) :: ts.drop 0 = [(e,(.slice p e.days.ex.length k1),(.slice p2 e.days.xt.length k2))] ++ ts.drop 0 from rfl,tCells_app,tCells_sole,<- List.append_assoc,List.length_append,List.length_append,List.length_take,List.length_drop,Nat.min_eq_left (by rw [<- HN.out];omega)];have h:=ownsRow_mono HO8.out (show w.heap.size <= w0.heap.size by omega);rw [HE.out];have hN:=HN.out;refine (cast ?_ h);congr 1
          all_goals first
            | (simp only [List.length_cons,List.length_nil];omega)
            | (have hq : n = 0:=by omega
               simp [tCells,hq])
        | some ad =>
          obtain ⟨bo,oo,sp⟩:=ad;by_cases hck : c = k
          · subst hck;have hA1 : c + 1 + 0 <= maxLen:=by unfold maxLen;omega
            have hA2 : (c + 1 + 0) * 160 <= 140737488355328:=by omega
            go_wp2_with (at_builtin;refine wpList_append_seg rfl (.tmp 46) (.tmp 49) 22 rfl w0.heap.size i0 _ 160 Tryz.underlying22 hi hz0 hz1 hz2 rfl _ (c + 1) _ rfl HR.out B _ _ [] rfl (Seg.nil _ _ _) (by intro h;first | rfl | cases h) hA1 hA2 hwy ?_);intro v' x8 hown8 hgrow _;have HL8:=Lh (below_grownBy HL.out HR.out (Nat.le_refl _) hwy ⟨hgrow.os,hgrow.tape,hgrow.output,hgrow.size,hgrow.block⟩);have HO8:=Lh hown8;clear hgrow hown8;go_wp2_with fail;go_ret;refine ⟨v',rfl,?_,HL0.out.trans (HL8.out.mono (by omega))⟩;rw [HPT.out,tCells_app,show (e,(.slice p e.days.ex.length k1),(.slice p2 e.days.xt.length k2)) :: ts.drop c = [(e,(.slice p e.days.ex.length k1),(.slice p2 e.days.xt.length k2))] ++ ts.drop c from rfl,tCells_app,tCells_sole,<- List.append_assoc,List.length_append,List.length_append,List.length_take,List.length_drop,Nat.min_eq_left (by rw [<- HN.out];omega)];have h:=ownsRow_mono HO8.out (show w.heap.size <= w0.heap.size by omega);rw [HE.out];have hN:=HN.out;refine (cast ?_ h);congr 1
            all_goals first
              | (simp only [List.length_cons,List.length_nil];omega)
              | (have hq : n = c:=by omega
                 simp [tCells,hq])
          · have hckb : k < c:=by omega
            have hA1 : k + 1 + 0 <= maxLen:=by unfold maxLen;omega
            have hA2 : (k + 1 + 0) * 160 <= 140737488355328:=by omega
            go_wp2_with (at_builtin;refine wpList_append_seg rfl (.tmp 46) (.tmp 49) 22 rfl w0.heap.size i0 _ 160 Tryz.underlying22 hi hz0 hz1 hz2 rfl _ (k + 1) _ rfl HR.out B _ _ [] rfl (Seg.nil _ _ _) (by intro h;first | rfl | cases h) hA1 hA2 hwy ?_);intro v' x8 hown8 hgrow _;have HL8:=Lh (below_grownBy HL.out HR.out (Nat.le_refl _) hwy ⟨hgrow.os,hgrow.tape,hgrow.output,hgrow.size,hgrow.block⟩);have HO8:=Lh hown8;clear hgrow hown8;go_wp2_with fail;go_ret;refine ⟨v',rfl,?_,HL0.out.trans (HL8.out.mono (by omega))⟩;rw [HPT.out,tCells_app,show (e,(.slice p e.days.ex.length k1),(.slice p2 e.days.xt.length k2)) :: ts.drop k = [(e,(.slice p e.days.ex.length k1),(.slice p2 e.days.xt.length k2))] ++ ts.drop k from rfl,tCells_app,tCells_sole,<- List.append_assoc,List.length_append,List.length_append,List.length_take,List.length_drop,Nat.min_eq_left (by rw [<- HN.out];omega)];have h:=ownsRow_mono HO8.out (show w.heap.size <= w0.heap.size by omega);rw [HE.out];have hN:=HN.out;refine (cast ?_ h);congr 1
            all_goals first
              | (simp only [List.length_cons,List.length_nil];omega)
              | (have hq : n = k:=by omega
                 simp [tCells,hq])
      · have hlt : k < n:=by rw [HN.out];exact (List.getElem?_eq_some_iff.1 hs).1
        have hlti : (k : Int) < n:=by omega
        obtain ⟨bo,oo,hao,hbo,hco⟩ : ∃ b o,ao = some ⟨b,o,none⟩ /\ b < B /\ ∀ (j : Nat) (u : Value),(tCells ts)[j]? = some u -> wc.cell? ⟨b,o + j,none⟩ = some u:=by
          rcases HG.out.at' with h | h
          · rw [h] at hs;simp at hs
          · exact h
        subst hao;have c0:=(seg_c hco k _ hs).c0;have HS:=Lh hs;have HCO:=Lh hl;clear hco hl hs;by_cases he : s.1.uid = e.uid
        · have hb : (s.1.uid.toList == e.uid.toList) = true:=by rw [he];simp
          have HPT:=Lh (show putT (e,(.slice p e.days.ex.length k1),(.slice p2 e.days.xt.length k2)) ts = ts.take k ++ (e,(.slice p e.days.ex.length k1),(.slice p2 e.days.xt.length k2)) :: ts.drop (k + 1) from putT_same (e,(.slice p e.days.ex.length k1),(.slice p2 e.days.xt.length k2)) ts k s HA.out HS.out HCO.out he);clear he;go_quiet (fail)
          have hk1 : ((k : Int) + 1).toNat = k + 1:=by omega
          have hk2 : IntKind.i64.wrap ((k : Int) + 1) = (k : Int) + 1:=by rw [IntKind.wrap_i64];omega
          have hk3 : (0 : Int) <= (k : Int) + 1:=by omega
          have hk4 : (k : Int) + 1 <= n:=by omega
          have hk5 : k + 1 <= n:=by omega
          by_cases hck : c = k + 1
          · have HE:=Lh (show ts.drop (k + 1) = [] from List.drop_eq_nil_of_le (by rw [<- HN.out];omega));have hnk : n = k + 1:=by omega
            have hA1 : k + 1 + 0 <= maxLen:=by unfold maxLen;omega
            have hA2 : (k + 1 + 0) * 160 <= 140737488355328:=by omega
            go_wp2_with (at_builtin;refine wpList_append_seg rfl (.tmp 46) (.tmp 49) 22 rfl w0.heap.size i0 _ 160 Tryz.underlying22 hi hz0 hz1 hz2 rfl _ (k + 1) _ rfl HR.out B _ _ [] rfl (Seg.nil _ _ _) (by intro h;first | rfl | cases h) hA1 hA2 hwy ?_);intro v' x8 hown8 hgrow _;have HL8:=Lh (below_grownBy HL.out HR.out (Nat.le_refl _) hwy ⟨hgrow.os,hgrow.tape,hgrow.output,hgrow.size,hgrow.block⟩);have HO8:=Lh hown8;clear hgrow hown8;go_wp2_with fail;go_ret;refine ⟨v',rfl,?_,HL0.out.trans (HL8.out.mono (by omega))⟩;rw [HPT.out,tCells_app,show (e,(.slice p e.days.ex.length k1),(.slice p2 e.days.xt.length k2)) :: ts.drop (k + 1) = [(e,(.slice p e.days.ex.length k1),(.slice p2 e.days.xt.length k2))] ++ ts.drop (k + 1) from rfl,tCells_app,tCells_sole,<- List.append_assoc,List.length_append,List.length_append,List.length_take,List.length_drop,Nat.min_eq_left (by rw [<- HN.out];omega)];have h:=ownsRow_mono HO8.out (show w.heap.size <= w0.heap.size by omega);rw [HE.out];have hN:=HN.out;refine (cast ?_ h);congr 1
            all_goals first
              | (simp only [List.length_cons,List.length_nil];omega)
              | simp [tCells]
          · have hckb : k + 1 < c:=by omega
            have hA1 : k + 1 + (ts.drop (k + 1)).length <= maxLen:=by rw [List.length_drop,<- HN.out];unfold maxLen;omega
            have hA2 : (k + 1 + (ts.drop (k + 1)).length) * 160 <= 140737488355328:=by rw [List.length_drop,<- HN.out];omega
            have HA1:=Lh hA1;have HA2:=Lh hA2;have HDL:=Lh (show (ts.drop (k + 1)).length = n - (k + 1) from by rw [List.length_drop,<- HN.out]);clear hA1 hA2;have HDS:=Lh (HG.out.drop (k + 1) (by rw [<- HN.out];omega));go_wp2_with (at_builtin;refine wpList_append_seg rfl (.tmp 46) (.tmp 49) 22 rfl w0.heap.size i0 _ 160 Tryz.underlying22 hi hz0 hz1 hz2 rfl _ (k + 1) _ rfl HR.out B (some ⟨bo,oo + (k + 1) * 13,none⟩) (c - (k + 1)) (ts.drop (k + 1)) (by rw [HDL.out];rfl) (HDS.out.below (below_drewN (Below.refl _ _) _)) (by intro h;cases h) HA1.out HA2.out hwy ?_);intro v' x8 hown8 hgrow _;have HL8:=Lh (below_grownBy HL.out HR.out (Nat.le_refl _) hwy ⟨hgrow.os,hgrow.tape,hgrow.output,hgrow.size,hgrow.block⟩);have HO8:=Lh hown8;clear hgrow hown8;go_wp2_with fail;go_ret;refine ⟨v',rfl,?_,HL0.out.trans (HL8.out.mono (by omega))⟩;rw [HPT.out,tCells_app,show (e,(.slice p e.days.ex.length k1),(.slice p2 e.days.xt.length k2)) :: ts.drop (k + 1) = [(e,(.slice p e.days.ex.length k1),(.slice p2 e.days.xt.length k2))] ++ ts.drop (k + 1) from rfl,tCells_app,tCells_sole,<- List.append_assoc,List.length_append,List.length_append,List.length_take,List.length_drop,Nat.min_eq_left (by rw [<- HN.out];omega)];have h:=ownsRow_mono HO8.out (show w.heap.size <= w0.heap.size by omega);exact h
        · have hb : (s.1.uid.toList == e.uid.toList) = false:=by
            rw [beq_eq_false_iff_ne];intro h;rw [Lib.toList_data,Lib.toList_data] at h;exact he (ByteArray.ext (Array.toList_inj.mp h))
          have HPT:=Lh (show putT (e,(.slice p e.days.ex.length k1),(.slice p2 e.days.xt.length k2)) ts = ts.take k ++ (e,(.slice p e.days.ex.length k1),(.slice p2 e.days.xt.length k2)) :: ts.drop k from putT_new (e,(.slice p e.days.ex.length k1),(.slice p2 e.days.xt.length k2)) ts k s HA.out HS.out HCO.out he);clear he;have hck : ¬ c = k:=by omega
          go_quiet (fail)
          have hA1 : k + 1 + (ts.drop k).length <= maxLen:=by rw [List.length_drop,<- HN.out];unfold maxLen;omega
          have hA2 : (k + 1 + (ts.drop k).length) * 160 <= 140737488355328:=by rw [List.length_drop,<- HN.out];omega
          have HA1:=Lh hA1;have HA2:=Lh hA2;have HDL:=Lh (show (ts.drop k).length = n - k from by rw [List.length_drop,<- HN.out]);clear hA1 hA2;have HDS:=Lh (HG.out.drop k (by rw [<- HN.out];omega));go_wp2_with (at_builtin;refine wpList_append_seg rfl (.tmp 46) (.tmp 49) 22 rfl w0.heap.size i0 _ 160 Tryz.underlying22 hi hz0 hz1 hz2 rfl _ (k + 1) _ rfl HR.out B (some ⟨bo,oo + k * 13,none⟩) (c - k) (ts.drop k) (by rw [HDL.out];rfl) (HDS.out.below (below_drewN (Below.refl _ _) _)) (by intro h;cases h) HA1.out HA2.out hwy ?_);intro v' x8 hown8 hgrow _;have HL8:=Lh (below_grownBy HL.out HR.out (Nat.le_refl _) hwy ⟨hgrow.os,hgrow.tape,hgrow.output,hgrow.size,hgrow.block⟩);have HO8:=Lh hown8;clear hgrow hown8;go_wp2_with fail;go_ret;refine ⟨v',rfl,?_,HL0.out.trans (HL8.out.mono (by omega))⟩;rw [HPT.out,tCells_app,show (e,(.slice p e.days.ex.length k1),(.slice p2 e.days.xt.length k2)) :: ts.drop k = [(e,(.slice p e.days.ex.length k1),(.slice p2 e.days.xt.length k2))] ++ ts.drop k from rfl,tCells_app,tCells_sole,<- List.append_assoc,List.length_append,List.length_append,List.length_take,List.length_drop,Nat.min_eq_left (by rw [<- HN.out];omega)];have h:=ownsRow_mono HO8.out (show w.heap.size <= w0.heap.size by omega);exact h
end Go.Proofs.YtageielcdebjlaaGreatDoor
