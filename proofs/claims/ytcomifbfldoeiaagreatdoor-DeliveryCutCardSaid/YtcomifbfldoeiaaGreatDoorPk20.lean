/- The lines of a feed, and feed.written for every valid feed. feed.Format for every feed: its contract. A text cut at commas; the numbers in a stamp. -/
import Derived.Test.YtcomifbfldoeiaaGreatDoorQk11
import Derived.Test.YtcomifbfldoeiaaGreatDoorQk7
open List renaming length_append->xa,length_cons->xb,length_nil->xc,flatten_cons->xd,append_nil->xe,flatten_nil->xf,map_cons->xg,map_nil->xh,mem_cons_self->xj,cons_append->xk,nil_append->xl,flatMap_cons->xm,mem_singleton->xn,not_mem_nil->xo,length_map->xp,mem_cons_of_mem->xq,mem_cons->xr,mem_append->xu,getElem?_eq_getElem->xv,map_append->xy
open Nat renaming le_trans->xi,zero_le->xw,le_refl->xx
open Bool renaming and_eq_true->xs
set_option maxRecDepth 100000
set_option maxHeartbeats 40000000
namespace Go.Proofs.YtcomifbfldoeiaaGreatDoor
open Go.RowKit
def headL (n : List UInt8) (v : Int) : List (List UInt8):=[[66,69,71,73,78,58,86,67,65,76,69,78,68,65,82],[86,69,82,83,73,79,78,58,50,46,48],[80,82,79,68,73,68,58,45,47,47,116,105,109,101,116,97,98,108,101,47,47,69,78],[78,65,77,69,58] ++ n,[82,69,86,73,83,73,79,78,58] ++ Lib.decDigits v.toNat]
def feedL (n : List UInt8) (v : Int) (es : List Ev) (z : List UInt8) : List (List UInt8):=headL n v ++ es.flatMap (fun e => evLines e z) ++ [[69,78,68,58,86,67,65,76,69,78,68,65,82]]
theorem evLines_len (e : Ev) (z : List UInt8) : (evLines e z).length <= 13:=by
 unfold evLines;simp only [xa];have h1 : (evA e z).length = 6:=rfl;have h2 : (evX e z).length <= 1:=by unfold evX;split <;> simp
 have h3 : (evR e z).length <= 1:=by unfold evR;split <;> simp
 have h4 : (evS e).length = 1:=rfl;have h5 : (evL e).length <= 1:=by unfold evL;split <;> simp
 have h6 : (evC e).length = 2:=rfl;omega
theorem flat_len (z : List UInt8) : ∀ es : List Ev,(es.flatMap fun e => evLines e z).length <= 13 * es.length
 | [] => xx _
 | e :: r => by
  rw [xm,xa,xb];have:=flat_len z r;have:=evLines_len e z;omega
theorem right_size {u : ByteArray} (h : rightB u.data.toList = true) : u.size <= 1000:=by
 rw [Lib.size_eq];generalize u.data.toList = l at h;by_cases hm : (64 : UInt8) ∈ l
 ·obtain ⟨a,b,rfl,ha⟩:=Tt.first_split l hm;unfold rightB Tt.rightP at h;rw [Tt.cut_first a b ha] at h;simp only [Bool.true_and,xs] at h;obtain ⟨hc,hn⟩:=h;have hla : a.length <= 16:=by
   cases a with
   | nil => simp
   | cons c r =>
    unfold Tt.code at hc;simp only [xs,decide_eq_true_eq] at hc;exact hc.1.1
  have hlb : b.length <= 5:=by
   unfold Tt.numFrom at hn;rw [decide_eq_true_iff] at hn;obtain ⟨j,hj, -,rfl⟩:=hn;exact Tt.dec_len 4 j (by omega)
  simp only [xa,xb];omega
 ·rw [show rightB l = false from Tt.rightP_none _ _ hm] at h;cases h
theorem code_size {z : ByteArray} (h : Tt.code z.data.toList = true) : z.size <= 16:=by
 rw [Lib.size_eq];generalize z.data.toList = l at h;cases l with
 | nil => simp
 | cons c r =>
  unfold Tt.code at h;simp only [xs,decide_eq_true_eq] at h;exact h.1.1
theorem written100 (n : ByteArray) (v : Int) (af : Option Addr) (cf : Nat) (es : List Ev) (z : ByteArray) (BB : Nat) (w : World) (hBB : BB <= w.heap.size) (hE : Evs BB w af es) (hv : feedV n v es = 0) (hz : Tt.code z.data.toList = true) (hL : Lens w) (hP : Pow w) (h6 : 6 < w.heap.size) :
  Calls Tryz.prog 70 #[.agg #[.string n,.int .i64 v,.slice af es.length cf],.string z] w fun e w' => ∃ g cap,e = .returned (.slice (some ⟨g,0,none⟩) (feedL n.data.toList v es z.data.toList).length cap) /\ StrAt w' (some ⟨g,0,none⟩) ((feedL n.data.toList v es z.data.toList).map str) /\ w.heap.size <= g /\ g < w'.heap.size /\ (feedL n.data.toList v es z.data.toList).length <= cap /\ Below w.heap.size w w':=by
 obtain ⟨v0,v1,hlen,hev⟩:=feedV_ok hv;have hzs:=code_size hz;have hns : n.size <= 16:=by
  unfold feedV at hv;split at hv
  ·cases hv
  ·rename_i hc
   exact code_size (by simpa using hc)
 have HEV:=Lh (evsV_each v es none hev);have HE:=Lh hE;have HL:=Lh hL;have HP:=Lh hP;obtain ⟨W0,hW0⟩ : ∃ W0,W0 = (w.alloc (.cells #[.string n,.int .i64 v,.slice af es.length cf] 49)).alloc (.cells #[.slice none 0 0] 209):=⟨_,rfl⟩
 have HS:=written_start n v (.slice af es.length cf) w;rw [<- hW0] at HS;obtain ⟨hF0,hB0,hL0,hS0⟩:=HS;have HL0:=Lh hL0;have HFA0:=Lh hF0;have HF0:=Lh hB0;have hs0 : w.heap.size + 2 <= W0.heap.size:=by omega
 have HK0:=Lh (But.refl (w.heap.size + 1) (w.heap.size + 2) W0);have HS0:=Lh hS0;obtain ⟨m,hmm⟩ : ∃ m,m = es.length:=⟨_,rfl⟩
 have HM:=Lh hmm;obtain ⟨b,hb⟩ : ∃ b,b = w.heap.size + 1:=⟨_,rfl⟩
 obtain ⟨B,hB⟩ : ∃ B,B = w.heap.size + 2:=⟨_,rfl⟩
 obtain ⟨F,hF⟩ : ∃ F,F = w.heap.size:=⟨_,rfl⟩
 have hFb : F < b:=by omega
 have hbB : b < B:=by omega
 have hFB : F < B:=by omega
 have hBs : B <= W0.heap.size:=by omega
 have hb6 : 6 < b:=by omega
 have hwb : w.heap.size <= b:=by omega
 have hwB : w.heap.size <= B:=by omega
 have hwb1 : w.heap.size < b:=by omega
 rw [<- hF] at HFA0;rw [<- hb,<- hB] at HF0 HK0;rw [<- hmm] at hW0 HFA0 hlen ⊢;clear hE hL hP hF0 hB0 hL0 hS0 hev hv hmm hB;go_enter Tryz.func70,Tryz.ntmps70;go_upto_region 2 with (fail);rw [<- hW0,<- hb,<- hF];clear hW0 hb hF hs0;obtain ⟨y0,hy0⟩ : ∃ y : List ByteArray,y = []:=⟨_,rfl⟩
 have HY0:=Lh hy0;have HN0:=Lh (show y0.length <= 0 from by rw [hy0];exact xx _);rw [<- hy0] at HF0;clear hy0;go_wp2_with fail;refine (put_parts2 b B W0.heap.size y0 [⟨#[66,69,71,73,78,58,86,67,65,76,69,78,68,65,82]⟩] W0 rfl HF0.out (xi hBs HK0.out.size) (by simp) (by simp only [xg,xh,xd,xf,xe,xb,xc];omega) (by have:=HN0.out;omega)).mono ?_;rintro x W1 ⟨rfl,hf,hk, -⟩;obtain ⟨y1,hy⟩ : ∃ y,y = y0 ++ [str ([66,69,71,73,78,58,86,67,65,76,69,78,68,65,82])]:=⟨_,rfl⟩
 have HF1:=Lh (show Buf b B y1 W1 from by rw [hy];simpa only [xg,xh,xd,xf,xe,xk,xl] using hf);have HY1:=Lh hy;have HN1:=Lh (show y1.length <= 1 from by rw [hy,xa];have:=HN0.out;simp only [xb,xc];omega);have HK1:=Lh (HK0.out.trans hk);have HFA1:=Lh (HFA0.out.but hk hFB (Nat.ne_of_lt hFb));clear hf hy hk HF0 HK0 HFA0;go_wp2_with fail;refine (put_parts2 b B W1.heap.size y1 [⟨#[86,69,82,83,73,79,78,58,50,46,48]⟩] W1 rfl HF1.out (xi hBs HK1.out.size) (by simp) (by simp only [xg,xh,xd,xf,xe,xb,xc];omega) (by have:=HN1.out;omega)).mono ?_;rintro x W2 ⟨rfl,hf,hk, -⟩;obtain ⟨y2,hy⟩ : ∃ y,y = y1 ++ [str ([86,69,82,83,73,79,78,58,50,46,48])]:=⟨_,rfl⟩
 have HF2:=Lh (show Buf b B y2 W2 from by rw [hy];simpa only [xg,xh,xd,xf,xe,xk,xl] using hf);have HY2:=Lh hy;have HN2:=Lh (show y2.length <= 2 from by rw [hy,xa];have:=HN1.out;simp only [xb,xc];omega);have HK2:=Lh (HK1.out.trans hk);have HFA2:=Lh (HFA1.out.but hk hFB (Nat.ne_of_lt hFb));clear hf hy hk HF1 HK1 HFA1;go_wp2_with fail;refine (put_parts2 b B W2.heap.size y2 [⟨#[80,82,79,68,73,68,58,45,47,47,116,105,109,101,116,97,98,108,101,47,47,69,78]⟩] W2 rfl HF2.out (xi hBs HK2.out.size) (by simp) (by simp only [xg,xh,xd,xf,xe,xb,xc];omega) (by have:=HN2.out;omega)).mono ?_;rintro x W3 ⟨rfl,hf,hk, -⟩;obtain ⟨y3,hy⟩ : ∃ y,y = y2 ++ [str ([80,82,79,68,73,68,58,45,47,47,116,105,109,101,116,97,98,108,101,47,47,69,78])]:=⟨_,rfl⟩
 have HF3:=Lh (show Buf b B y3 W3 from by rw [hy];simpa only [xg,xh,xd,xf,xe,xk,xl] using hf);have HY3:=Lh hy;have HN3:=Lh (show y3.length <= 3 from by rw [hy,xa];have:=HN2.out;simp only [xb,xc];omega);have HK3:=Lh (HK2.out.trans hk);have HFA3:=Lh (HFA2.out.but hk hFB (Nat.ne_of_lt hFb));clear hf hy hk HF2 HK2 HFA2;have f0:=HFA3.out.c0;have f1:=HFA3.out.c1;have f2:=HFA3.out.c2;go_wp2_with fail;refine (put_parts2 b B W3.heap.size y3 [⟨#[78,65,77,69,58]⟩,n] W3 rfl HF3.out (xi hBs HK3.out.size) (by simp) (by simp only [xg,xh,xd,xf,xe,xa,xb,xc,<- Lib.size_eq];omega) (by have:=HN3.out;omega)).mono ?_;rintro x W4 ⟨rfl,hf,hk, -⟩;obtain ⟨y4,hy⟩ : ∃ y,y = y3 ++ [str ([78,65,77,69,58] ++ n.data.toList)]:=⟨_,rfl⟩
 have HF4:=Lh (show Buf b B y4 W4 from by rw [hy];simpa only [xg,xh,xd,xf,xe,xk,xl] using hf);have HY4:=Lh hy;have HN4:=Lh (show y4.length <= 4 from by rw [hy,xa];have:=HN3.out;simp only [xb,xc];omega);have HK4:=Lh (HK3.out.trans hk);have HFA4:=Lh (HFA3.out.but hk hFB (Nat.ne_of_lt hFb));clear hf hy hk HF3 HK3 HFA3 f0 f1 f2;have f0:=HFA4.out.c0;have f1:=HFA4.out.c1;have f2:=HFA4.out.c2;go_wp2_with fail;refine (itoa136 v W4 (HP.out.below h6 (HL0.out.trans (HK4.out.below (by omega) (by omega)))) (by omega) (by omega)).mono ?_;rintro x W5 ⟨rfl,hb⟩;obtain ⟨t5,ht⟩ : ∃ t,t = (⟨(Lib.decDigits v.toNat).toArray⟩ : ByteArray):=⟨_,rfl⟩
 have zt5 : t5.size <= 5:=by rw [ht,size_mk];exact Tt.dec_len 4 _ (by omega)
 rw [<- ht];have HT5:=Lh (show t5.data.toList = Lib.decDigits v.toNat from by rw [ht]);clear ht f0 f1 f2;have HF5:=Lh (HF4.out.kept hb);have HK5:=Lh (HK4.out.trans (But.of_below (hb.mono (xi hBs HK4.out.size))));have HFA5:=Lh (HFA4.out.but (But.of_below (b:=b) (hb.mono (xi hBs HK4.out.size))) hFB (Nat.ne_of_lt hFb));clear hb HF4 HK4 HFA4;go_wp2_with fail;refine (put_parts2 b B W5.heap.size y4 [⟨#[82,69,86,73,83,73,79,78,58]⟩,t5] W5 rfl HF5.out (xi hBs HK5.out.size) (by simp) (by simp only [xg,xh,xd,xf,xe,xa,xb,xc,<- Lib.size_eq];omega) (by have:=HN4.out;omega)).mono ?_;rintro x W6 ⟨rfl,hf,hk, -⟩;obtain ⟨y6,hy⟩ : ∃ y,y = y4 ++ [str ([82,69,86,73,83,73,79,78,58] ++ Lib.decDigits v.toNat)]:=⟨_,rfl⟩
 have HF6:=Lh (show Buf b B y6 W6 from by rw [hy];simpa only [xg,xh,xd,xf,xe,xk,xl,HT5.out] using hf);have HY6:=Lh hy;have HN6:=Lh (show y6.length <= 5 from by rw [hy,xa];have:=HN4.out;simp only [xb,xc];omega);have HK6:=Lh (HK5.out.trans hk);have HFA6:=Lh (HFA5.out.but hk hFB (Nat.ne_of_lt hFb));clear hf hy hk HF5 HK5 HFA5;have HYA:=Lh (show y6 = (headL n.data.toList v).map str from by rw [HY6.out,HY4.out,HY3.out,HY2.out,HY1.out,HY0.out];rfl);clear HY6 HY4 HY3 HY2 HY1 HY0;have f0:=HFA6.out.c0;have f1:=HFA6.out.c1;have f2:=HFA6.out.c2;go_wp2_with fail;clear f0 f1 f2;go_loopw [33] (fun iv wr => ∃ (i : Nat) (y : List ByteArray),iv = .int .i64 i /\ i <= m /\ Hid (y = (headL n.data.toList v ++ (es.take i).flatMap fun e => evLines e z.data.toList).map str) /\ Hid (Buf b B y wr) /\ Hid (But b B W0 wr)) (fun iv _ => m - (intOf iv).toNat)
 case atStart => exact ⟨0,y6,rfl,xw _,Lh (by rw [HYA.out];simp),HF6,HK6⟩
 case round =>
  clear HYA HF6 HK6 HFA6;obtain ⟨i,y,rfl,hi,HY,HF,HK⟩:=hrel;have HN:=Lh (show y.length <= 4000 from by
   rw [HY.out,xp,xa];have h1:=flat_len z.data.toList (es.take i);have h2 : (headL n.data.toList v).length = 5:=rfl;rw [List.length_take] at h1;omega)
  have hsr:=xi hBs HK.out.size;have HWr:=Lh (show Below w.heap.size w wr from HL0.out.trans (HK.out.below (by omega) (by omega)));by_cases hlt : i < m
  ·have hx : i < es.length:=by rw [<- HM.out];exact hlt
   have hlti : (i : Int) < m:=by omega
   obtain ⟨bo,oo,hao,hbo,hcell⟩:=HE.out.form (by omega);subst hao;obtain ⟨e,hee⟩ : ∃ e,e = es[i]:=⟨_,rfl⟩
   have hge : es[i]? = some e:=by rw [hee];exact xv hx
   obtain ⟨hE1,x,x',hC,hX,hX'⟩:=hcell i e hge;have hck:=HEV.out e (by rw [hee];exact List.getElem_mem hx);have HT:=Lh (show es.take (i + 1) = es.take i ++ [e] from by rw [List.take_succ_eq_append_getElem hx,hee]);obtain ⟨c0,c1,c2,c3,c4,c5,c6,c7,c8,c9,c10,c11,c12⟩:=hC.below (w':=wr) hbo (HWr.out.mono hBB);obtain ⟨ax,cx,hxx,hI⟩:=hX;obtain ⟨ay,cy,hyy,hI'⟩:=hX';subst hxx hyy;have HI:=Lh (hI.below (HWr.out.mono hBB));have HI':=Lh (hI'.below (HWr.out.mono hBB));have HCK:=Lh hck;have HUS:=Lh (right_size hck.1);clear hcell hee hge hE1 hC hI hI' hck hbo;go_upto_region 10 with (fail)
   obtain ⟨W,hW⟩ : ∃ W,W = wr.alloc (.cells (evCells e (.slice ax e.days.ex.length cx) (.slice ay e.days.xt.length cy)) 104):=⟨_,rfl⟩
   obtain ⟨g,hg⟩ : ∃ g,g = wr.heap.size:=⟨_,rfl⟩
   have HBX:=Lh (show Below wr.heap.size wr W from by rw [hW];exact below_box wr _);have HGB:=Lh (show Blk g (evCells e (.slice ax e.days.ex.length cx) (.slice ay e.days.xt.length cy)) 104 W from by rw [hW,hg];exact Blk.new wr _ 104);unfold evCells at hW;rw [<- hW,<- hg];clear hW hg c0 c1 c2 c3 c4 c5 c6 c7 c8 c9 c10 c11 c12;obtain ⟨c0,c1,c2,c3,c4,c5,c6,c7,c8,c9,c10,c11,c12⟩:=EvBox.c (e:=e) (v:=.slice ax e.days.ex.length cx) (v':=.slice ay e.days.xt.length cy) HGB.out;simp only [Nat.zero_add] at c0 c1 c2 c3 c4 c5 c6 c7 c8 c9 c10 c11 c12;have hBW:=xi hsr HBX.out.size;have HWW:=Lh (show Below w.heap.size w W from HWr.out.trans (HBX.out.mono (by omega)));have HC : Hid (Calls Tryz.prog 133 #[.pointer (some ⟨b,0,none⟩),evVal e (.slice ax e.days.ex.length cx) (.slice ay e.days.xt.length cy),.string z] W fun x w' => x = .returned (.tuple #[]) /\ Buf b B (y ++ (evLines e z.data.toList).map str) w' /\ But b B W w' /\ Keep9 b W w'):=Lh (event173 b B y e v ax ay cx cy z W (HF.out.kept HBX.out) hBW hb6 (by have:=HN.out;omega) HCK.out.2 (by omega) HUS.out (by omega) ((HI.out.below (HBX.out.mono (by omega))).mono (by omega)) ((HI'.out.below (HBX.out.mono (by omega))).mono (by omega)) (HL.out.below (by omega) HWW.out) (HP.out.below h6 HWW.out));unfold evVal evCells at HC;go_wp2_with fail;refine HC.out.mono ?_;rintro x W9 ⟨rfl,hf,hk, -⟩;have HF9:=Lh hf;have HK9:=Lh (HK.out.trans ((But.of_below (b:=b) (HBX.out.mono hsr)).trans hk));clear hf hk HC c0 c1 c2 c3 c4 c5 c6 c7 c8 c9 c10 c11 c12;go_wp2_with fail;go_roundw
   case rel => exact ⟨i + 1,y ++ (evLines e z.data.toList).map str,by go_num,by omega,Lh (by rw [HY.out,HT.out,List.flatMap_append,xm,List.flatMap_nil,xe,<- List.append_assoc,xy (l₁:=_ ++ _)]),HF9,HK9⟩
   case measure => simp [intOf];omega
  ·have hlti : ¬ (i : Int) < m:=by omega
   have HTA:=Lh (show es.take i = es from List.take_of_length_le (by rw [<- HM.out];omega));obtain ⟨yr,hyr⟩ : ∃ q,q = y:=⟨_,rfl⟩
   go_wp2_with fail;refine (put_parts2 b B wr.heap.size y [⟨#[69,78,68,58,86,67,65,76,69,78,68,65,82]⟩] wr rfl HF.out hsr (by simp) (by simp only [xg,xh,xd,xf,xe,xb,xc];omega) (by have:=HN.out;omega)).mono ?_;rintro x W9 ⟨rfl,hf,hk, -⟩;have HKE:=Lh (HK.out.trans hk);have HYE:=Lh (show y ++ [str [69,78,68,58,86,67,65,76,69,78,68,65,82]] = (feedL n.data.toList v es z.data.toList).map str from by rw [HY.out,HTA.out];unfold feedL;rw [xy (l₂:=[_])];rfl);have HFE:=Lh (show Buf b B ((feedL n.data.toList v es z.data.toList).map str) W9 from by rw [<- HYE.out];simpa only [xg,xh,xd,xf,xe] using hf);clear hf hk hyr;obtain ⟨u,h6,o6⟩:=HFE.out.ex;have cb : W9.cell? ⟨b,0,none⟩ = some u:=by rw [Lib.cell_of_heap h6];rfl
   have hfl : 0 < (feedL n.data.toList v es z.data.toList).length:=by unfold feedL;rw [xa];simp
   rw [xp] at o6;obtain ⟨g,cap,hu,hcap⟩ : ∃ g cap,u = .slice (some ⟨g,0,none⟩) (feedL n.data.toList v es z.data.toList).length cap /\ (feedL n.data.toList v es z.data.toList).length <= cap:=by
    rcases o6.2 with ⟨_,h0⟩ | ⟨g,cap,cur,hv,_,_,h5,_⟩
    ·omega
    ·exact ⟨g,cap,hv,by omega⟩
   rw [hu] at cb o6;have HO:=Lh o6;have HCAP:=Lh hcap;clear hu h6 o6 hfl hcap;go_wp2_with fail;go_ret;refine ⟨g,cap,rfl,?_,?_,(HO.out.lt g rfl).2,HCAP.out,HL0.out.trans (HKE.out.below (by omega) (by omega))⟩
   ·intro j x hx;exact ⟨_,rfl,HO.out.cells (g:=g) rfl j (.string x) (by rw [List.getElem?_map,hx];rfl)⟩
   ·have:=(HO.out.lt g rfl).1;omega
def feedT (n : List UInt8) (v : Int) (es : List Ev) (z : List UInt8) : List UInt8:=(feedL n v es z).flatMap Tt.fold
def formatV (n : ByteArray) (v : Int) (es : List Ev) (z : ByteArray) : List UInt8 × Int :=
 if feedV n v es ≠ 0 then ([],feedV n v es)
 else if Tt.code z.data.toList = false then ([],10)
 else if 262144 < ((feedT n.data.toList v es z.data.toList).length : Int) then ([],2)
 else (feedT n.data.toList v es z.data.toList,0)
theorem fold_str (ls : List (List UInt8)) : (ls.map str).flatMap (fun l => Tt.fold l.data.toList) = ls.flatMap Tt.fold:=by
 induction ls with
 | nil => rfl
 | cons a r ih => rw [xg,xm,xm,ih];rfl
theorem flat_bound (k : Nat) : ∀ ls : List ByteArray,(∀ x ∈ ls,x.size <= k) -> (ls.flatMap (fun l => Tt.fold l.data.toList)).length <= ls.length * (5 * k + 2)
 | [],_ => xw _
 | a :: r,h => by
  rw [xm,xa,xb,Nat.succ_mul];have h1:=Tt.fold_length a.data.toList;have h2:=flat_bound k r (fun x hx => h x (xq _ hx));have h3:=h a (xj ..);rw [<- Lib.size_eq] at h1;omega
theorem line_len {e : Ev} {v : Int} {z : List UInt8} (hr : rightB e.uid.data.toList = true) (hc : checkV e v = 0) (hv : v <= 64) (hz : z.length <= 16) : ∀ l ∈ evLines e z,l.length <= 3000:=by
 obtain ⟨q0,q1,hsv, -,st0,st1,mi0,mi1, -,hls,hll⟩:=check_all hc;have hss:=lab_size hls;have hsl:=lab_size hll;have hh:=((Tt.serV_zero e.days).1 hsv).1;have hus:=right_size hr;rw [Lib.size_eq] at hss hsl hus;have h1:=Tt.dec_len 4 e.seq.toNat (by omega);have h2:=Tt.dec_len 4 e.mins.toNat (by omega);have h3:=rule_len hh;have h4:=Tt.stampsL_len e.start e.days.ex;have h5:=Tt.stampsL_len e.start e.days.xt;have h6:=Tt.esc_length e.summ.data.toList;have h7:=Tt.esc_length e.loc.data.toList;have h8:=hh.n;have h9:=Tt.stampL_len e.days.first e.start;intro l hl;unfold evLines at hl;simp only [xu] at hl;rcases hl with ((((hl | hl) | hl) | hl) | hl) | hl
 ·unfold evA at hl;simp only [xr,xo,or_false] at hl;rcases hl with rfl | rfl | rfl | rfl | rfl | rfl <;> (simp only [xa,xb,xc];omega)
 ·unfold evX at hl;split at hl
  ·cases hl
  ·rw [xn] at hl;subst hl;simp only [xa,xb,xc];omega
 ·unfold evR at hl;split at hl
  ·cases hl
  ·rw [xn] at hl;subst hl;simp only [xa,xb,xc];omega
 ·unfold evS at hl;rw [xn] at hl;subst hl;simp only [xa,xb,xc];omega
 ·unfold evL at hl;split at hl
  ·cases hl
  ·rw [xn] at hl;subst hl;simp only [xa,xb,xc];omega
 ·unfold evC at hl;simp only [xr,xo,or_false] at hl;rcases hl with rfl | rfl
  ·split <;> decide
  ·decide
theorem feedL_lines {n z : ByteArray} {v : Int} {es : List Ev} (hv : feedV n v es = 0) (hz : Tt.code z.data.toList = true) : (∀ x ∈ (feedL n.data.toList v es z.data.toList).map str,x.size <= 3000) /\ ((feedL n.data.toList v es z.data.toList).map str).length <= 4000:=by
 obtain ⟨v0,v1,hlen,hev⟩:=feedV_ok hv;have hzs:=code_size hz;have hns : n.size <= 16:=by
  unfold feedV at hv;split at hv
  ·cases hv
  ·rename_i hc
   exact code_size (by simpa using hc)
 rw [Lib.size_eq] at hzs hns;constructor
 ·intro x hx;obtain ⟨l,hl,rfl⟩:=List.mem_map.1 hx;rw [show (str l).size = l.length from size_mk l];unfold feedL headL at hl;simp only [xu,xr,xo,or_false] at hl;have h1:=Tt.dec_len 4 v.toNat (by omega);rcases hl with ((rfl | rfl | rfl | rfl | rfl) | hl) | rfl
  ·decide
  ·decide
  ·decide
  ·simp only [xa,xb,xc];omega
  ·simp only [xa,xb,xc];omega
  ·obtain ⟨e,he,hl⟩:=List.mem_flatMap.1 hl;have hk:=evsV_each v es none hev e he;exact line_len hk.1 hk.2 v1 hzs l hl
  ·decide
 ·rw [xp];unfold feedL;rw [xa,xa];have h1:=flat_len z.data.toList es;have h2 : (headL n.data.toList v).length = 5:=rfl;simp only [xb,xc];omega
theorem format48 (n : ByteArray) (v : Int) (af : Option Addr) (cf : Nat) (es : List Ev) (z : ByteArray) (BB : Nat) (w : World) (hBB : BB <= w.heap.size) (hE : Evs BB w af es) (hn : es.length <= 4611686018427387903) (hL : Lens w) (hP : Pow w) (h6 : 6 < w.heap.size) :
  Calls Tryz.prog 33 #[.agg #[.string n,.int .i64 v,.slice af es.length cf],.string z] w fun e w' => e = .returned (.tuple #[.string (str (formatV n v es z).1),.int .i64 (formatV n v es z).2]) /\ Below w.heap.size w w':=by
 obtain ⟨W0,hW0⟩ : ∃ W0,W0 = w.alloc (.cells #[.string n,.int .i64 v,.slice af es.length cf] 49):=⟨_,rfl⟩
 have F0:=Lh (show FeedAt w.heap.size n v (.slice af es.length cf) W0 from by rw [hW0];exact alloc3 n v _ w);have L0:=Lh (show Below w.heap.size w W0 from by rw [hW0];exact below_box w _);have s0 : w.heap.size + 1 <= W0.heap.size:=by rw [hW0];simp
 have HE0:=Lh (hE.below (L0.out.mono hBB));have HV:=Lh (valid46 n v es af cf BB W0 (by omega) HE0.out hn);have HLE:=Lh (hL.below (by omega) L0.out);have HPO:=Lh (hP.below h6 L0.out);have HR : Hid (formatV n v es z = if feedV n v es ≠ 0 then ([],feedV n v es) else if Tt.code z.data.toList = false then ([],10) else if 262144 < ((feedT n.data.toList v es z.data.toList).length : Int) then ([],2) else (feedT n.data.toList v es z.data.toList,0)):=rfl;have HWR : Hid (∀ W : World,Below W0.heap.size W0 W -> feedV n v es = 0 -> Tt.code z.data.toList = true -> Calls Tryz.prog 70 #[.agg #[.string n,.int .i64 v,.slice af es.length cf],.string z] W fun e w' => ∃ g cap,e = .returned (.slice (some ⟨g,0,none⟩) (feedL n.data.toList v es z.data.toList).length cap) /\ StrAt w' (some ⟨g,0,none⟩) ((feedL n.data.toList v es z.data.toList).map str) /\ W.heap.size <= g /\ g < w'.heap.size /\ (feedL n.data.toList v es z.data.toList).length <= cap /\ Below W.heap.size W w'):=Lh (fun W hW hv hz => written100 n v af cf es z BB W (by have:=hW.size;omega) (HE0.out.below (hW.mono (by omega))) hv hz (HLE.out.below (by omega) hW) (HPO.out.below (by omega) hW) (by have:=hW.size;omega));obtain ⟨m,hmm⟩ : ∃ m,m = es.length:=⟨_,rfl⟩
 rw [<- hmm] at hW0 F0 HV HWR ⊢;obtain ⟨F,hF⟩ : ∃ F,F = w.heap.size:=⟨_,rfl⟩
 rw [<- hF] at F0;have hFW : F < W0.heap.size:=by omega
 have f0:=F0.out.c0;have f1:=F0.out.c1;have f2:=F0.out.c2;clear hmm hE hL hP hn HE0 HLE HPO;go_enter Tryz.func33,Tryz.ntmps33;go_upto_region 1 with (fail);rw [<- hW0,<- hF];clear hW0 hF;go_wp2_with fail;refine HV.out.mono ?_;rintro e w1 ⟨rfl,hb1⟩;have F1:=Lh (F0.out.below hb1 hFW);have L1:=Lh (L0.out.trans (hb1.mono (by omega)));have HB1:=Lh hb1;have s1 : w.heap.size + 1 <= w1.heap.size:=xi s0 hb1.size;clear f0 f1 f2 hb1 HV F0 L0;obtain ⟨fv,hfv⟩ : ∃ fv,fv = feedV n v es:=⟨_,rfl⟩
 rw [<- hfv];have HFV:=Lh hfv;clear hfv;by_cases hz0 : fv = 0
 ·have HV0:=Lh (HFV.out.symm.trans hz0);subst hz0;go_wp2_with fail;refine (code_any _ _).mono ?_;rintro e w1' ⟨rfl,hw⟩;rw [hw];clear hw w1';cases hz : Tt.code z.data.toList
  ·have HX:=Lh (show formatV n v es z = ([],10) from by rw [HR.out,if_neg (by rw [HV0.out];decide),if_pos hz]);go_wp2_with fail;go_ret2;exact ⟨by rw [HX.out];rfl,L1.out⟩
  ·have HX:=Lh (show formatV n v es z = if 262144 < ((feedT n.data.toList v es z.data.toList).length : Int) then ([],2) else (feedT n.data.toList v es z.data.toList,0) from by rw [HR.out,if_neg (by rw [HV0.out];decide),if_neg (by rw [hz];decide)]);have HLI:=Lh (feedL_lines HV0.out hz);have HFT:=Lh (show feedT n.data.toList v es z.data.toList = ((feedL n.data.toList v es z.data.toList).map str).flatMap (fun l => Tt.fold l.data.toList) from (fold_str _).symm);have HW1:=Lh (fun W hW => HWR.out W hW HV0.out hz);obtain ⟨ls,hls⟩ : ∃ ls,ls = (feedL n.data.toList v es z.data.toList).map str:=⟨_,rfl⟩
   have hll : (feedL n.data.toList v es z.data.toList).length = ls.length:=by rw [hls,xp]
   rw [<- hls] at HLI HFT HW1;rw [hll] at HW1;have hl4:=HLI.out.2;have HSZ:=Lh HLI.out.1;have HFB:=Lh (flat_bound 3000 ls HSZ.out);clear hls hll HWR HLI;have hf:=Bld.fresh w1 (w1.heap.size + 1) (by omega);have hba:=Lh ((Below.refl _ w1).alloc (xx _) (.cells #[.pointer none,.slice none 0 0] 149));have F2:=Lh (F1.out.below hba.out (by have:=HB1.out.size;omega));have L2:=Lh (L1.out.trans (hba.out.mono (by omega)));have HWX:=Lh (HW1.out (w1.alloc (.cells #[.pointer none,.slice none 0 0] 149)) (HB1.out.trans (hba.out.mono HB1.out.size)));have f0:=F2.out.c0;have f1:=F2.out.c1;have f2:=F2.out.c2;go_wp2_with fail;refine HWX.out.mono ?_;rintro e w2 ⟨g,cap,rfl,hstr,hg1,hg2, -,hb2⟩;have hsz2:=hb2.size;have hB : Bld w1.heap.size w2.heap.size [] w2:=by
    obtain ⟨p,v,hp,hb,_⟩:=(hf.kept hb2).ex;refine ⟨by simp at hsz2;omega,p,.slice none 0 0,hp,?_,World.ownsRow_nil _ _ _ _⟩;rw [hb2.block _ (by simp),heap_alloc_new];have:=hb;rw [hb2.block _ (by simp),heap_alloc_new] at this;simp at this;rw [<- this.1]
   have L3:=Lh (L2.out.trans (hb2.mono (by simp;omega)));have s2 : w1.heap.size + 1 <= w2.heap.size:=by simpa using hsz2
   have hgb : w1.heap.size + 1 <= g:=by simpa using hg1
   have HSTR:=Lh hstr;clear f0 f1 f2 F1 F2 L1 L2 hf hb2 hsz2 hg1 hstr HW1 HWX hba HB1;go_wp2_with fail;go_loopw [22] (fun i wr => ∃ (k : Nat) (acc : List UInt8),k <= ls.length /\ i = .int .i64 k /\ Bld w1.heap.size w2.heap.size acc wr /\ But w1.heap.size w2.heap.size w2 wr /\ acc.length <= 4000 * 15002 /\ Hid (acc = (ls.take k).flatMap (fun l => Tt.fold l.data.toList))) (fun i _ => ls.length - (intOf i).toNat)
   case atStart => exact ⟨0,[],xw _,rfl,hB,But.refl _ _ _,by simp,rfl⟩
   case round =>
    obtain ⟨k,acc,hk,rfl,hBl,hbut,hacc,HA⟩:=hrel;have hsr:=hbut.size;by_cases hlt : k < ls.length
    ·obtain ⟨x,hx⟩ : ∃ x,ls[k]? = some x:=⟨_,xv hlt⟩
     obtain ⟨a,ha,hcx⟩:=HSTR.out k x hx;have hca : wr.cell? ⟨g,k,none⟩ = some (.string x):=by
      rw [hbut.cell (p:=⟨g,k,none⟩) hg2 (by simp;omega)];cases ha;rw [addr_add] at hcx;exact hcx
     have hxs:=HSZ.out x (List.mem_of_getElem? hx);have hlen:=take_le ls (k + 1);have hst:=format_step ls k x hx;rw [hst,<- HA.out,xa] at hlen;have hlen2 : acc.length + (Tt.fold x.data.toList).length <= 4000 * 15002:=xi hlen (xi HFB.out (Nat.mul_le_mul_right _ hl4));have HST:=Lh hst;clear hx ha hcx hlen hst;have hki : (k : Int) < (ls.length : Int):=by omega
     go_wp2_with fail;refine (fold_any _ _ (by omega)).mono ?_;rintro e w3 ⟨rfl,hb3⟩;have s3:=hb3.size;have hB3:=hBl.kept hb3;go_wp2_with fail;refine (writeString_any _ _ _ _ _ hB3 (by rw [Lib.size_eq];simp only [];omega) (by omega)).mono ?_;rintro e w4 ⟨rfl,hB4,hbut4⟩;go_wp2_with fail;go_roundw
     case rel =>
      refine ⟨k + 1,_,by omega,by go_num,hB4,hbut.trans ((But.of_below (hb3.mono (by omega))).trans hbut4),by rw [xa];exact hlen2,?_⟩;show _ = _
      rw [HST.out,HA.out]
     case measure => simp [intOf];omega
    ·have hk2 : k = ls.length:=by omega
     have HK:=Lh hk2;have HAC:=Lh (show acc = feedT n.data.toList v es z.data.toList from by rw [HA.out,HK.out,List.take_length,HFT.out]);clear hk2;go_wp2_with fail;refine (len_any _ _ _ _ hBl).mono ?_;rintro e w5 ⟨rfl,hw⟩;rw [hw];clear hw w5;by_cases hai : (262144 : Int) < (acc.length : Int)
     ·have HY:=Lh (show formatV n v es z = ([],2) from by rw [HX.out,if_pos (by rw [<- HAC.out];exact hai)]);go_wp2_with fail;go_ret2;exact ⟨by rw [HY.out];rfl,L3.out.trans (hbut.below (by omega) (by omega))⟩
     ·have HY:=Lh (show formatV n v es z = (acc,0) from by rw [HX.out,if_neg (by rw [<- HAC.out];exact hai),HAC.out]);go_wp2_with fail;refine (string_any _ _ _ _ hBl).mono ?_;rintro e w6 ⟨rfl,hb6⟩;go_wp2_with fail;go_ret2;exact ⟨by rw [HY.out];rfl,(L3.out.trans (hbut.below (by omega) (by omega))).trans (hb6.mono (by omega))⟩
 ·have hzb : (fv != 0) = true:=by simp [hz0]
  have HX:=Lh (show formatV n v es z = ([],fv) from by rw [HR.out,if_pos (by rw [<- HFV.out];exact hz0),HFV.out]);go_wp2_with fail;go_ret2;exact ⟨by rw [HX.out];rfl,L1.out⟩
end Go.Proofs.YtcomifbfldoeiaaGreatDoor
namespace Tt
open Go Go.Lib Go.Proofs.YtcomifbfldoeiaaGreatDoor
theorem indexByte_app (c : UInt8) (r : List UInt8) : ∀ a : List UInt8,c ∉ a -> indexByte (a ++ c :: r) c = a.length
 | [],_ => by rw [xl,indexByte];simp
 | b :: a,h => by
  have h1 : b ≠ c:=fun e => h (by rw [e];exact xj ..)
  have ih:=indexByte_app c r a (fun m => h (xq _ m));rw [xk,indexByte,ih,if_neg (by simpa using h1),if_neg (by rw [beq_iff_eq];omega),xb];omega
theorem split_app (c : UInt8) (a r : List UInt8) (h : c ∉ a) : split (a ++ c :: r) [c] = a :: split r [c]:=by
 have hc : (a ++ c :: r).count c = r.count c + 1:=by
  rw [List.count_append,List.count_eq_zero_of_not_mem h,List.count_cons_self];omega
 have hi : index (a ++ c :: r) [c] = a.length:=by rw [index_one,indexByte_app c r a h]
 unfold split;rw [count_one,count_one,hc,splitK,hi,if_neg (by rw [beq_iff_eq];omega)];rw [show ((a.length : Int).toNat + 0) = a.length from by omega,List.take_left,show ((a.length : Int).toNat + [c].length) = (a ++ [c]).length from by simp,show a ++ c :: r = (a ++ [c]) ++ r from by simp,List.drop_left]
theorem split_last (c : UInt8) (a : List UInt8) (h : c ∉ a) : split a [c] = [a]:=by
 unfold split;rw [count_one,List.count_eq_zero_of_not_mem h];rfl
theorem ofNat_ne {n : Nat} (h : n < 10) : UInt8.ofNat (48 + n) ≠ 44:=by
 match n,h with
 | 0,_ | 1,_ | 2,_ | 3,_ | 4,_ | 5,_ | 6,_ | 7,_ | 8,_ | 9,_ => decide
theorem stamp_comma {day start : Int} (hy : (yOf day).toNat < 10000) (hm : (mOf day).toNat < 100) (hd : (dOf day).toNat < 100) (h0 : 0 <= start) (h1 : start < 1440) : (44 : UInt8) ∉ stampL day start:=by
 intro h;simp only [stampL,dateL,d4,d2,xu,xr,xo,or_false] at h;have e : ∀ n : Nat,n < 10 -> (44 : UInt8) ≠ UInt8.ofNat (48 + n):=fun n hn e => ofNat_ne hn e.symm
 rcases h with ((((((h | h | h | h) | h | h) | h | h) | h) | h | h) | h | h) | h | h
 all_goals first
  | exact absurd h (by decide)
  | exact e _ (by omega) h
theorem stampsL_split (start : Int) (h0 : 0 <= start) (h1 : start < 1440) : ∀ ds : List Int,ds ≠ [] -> (∀ d ∈ ds,0 <= d /\ d <= 36524) -> split (stampsL start ds) [44] = ds.map fun d => stampL d start
 | [],h,_ => absurd rfl h
 | [d],_,hd => by
  obtain ⟨y0,y1,m0,m1,d0,d1⟩:=date_toNat (hd d (xj ..)).1 (hd d (xj ..)).2;exact split_last _ _ (stamp_comma (by omega) (by omega) (by omega) h0 h1)
 | d :: e :: r,_,hd => by
  obtain ⟨y0,y1,m0,m1,d0,d1⟩:=date_toNat (hd d (xj ..)).1 (hd d (xj ..)).2;rw [stampsL,split_app _ _ _ (stamp_comma (by omega) (by omega) (by omega) h0 h1),stampsL_split start h0 h1 (e :: r) (by simp) (fun x hx => hd x (xq _ hx))];rfl
theorem atoi_d2 : ∀ n : Nat,n < 100 -> Lib.atoi (d2 n) = some (n : Int):=by decide
set_option maxRecDepth 10000 in
theorem atoi_d4' : ∀ n : Nat,n < 100 -> Lib.atoi (d4 (2000 + n)) = some ((2000 + n : Nat) : Int):=by decide
theorem atoi_d4 {n : Nat} (h0 : 2000 <= n) (h1 : n <= 2099) : Lib.atoi (d4 n) = some (n : Int):=by
 have:=atoi_d4' (n - 2000) (by omega);rwa [show 2000 + (n - 2000) = n from by omega] at this
end Tt
namespace Go.Proofs.YtcomifbfldoeiaaGreatDoor
open Go.RowKit
theorem splitB_stamps {s : ByteArray} {start : Int} {ds : List Int} (hs : s.data.toList = Tt.stampsL start ds) (hne : ds ≠ []) (hd : ∀ d ∈ ds,0 <= d /\ d <= 36524) (h0 : 0 <= start) (h1 : start < 1440) :
  Lib.splitB ⟨#[44]⟩ 0 (Lib.countB s ⟨#[44]⟩) s = ds.map fun d => str (Tt.stampL d start):=by
 refine map_data_inj ?_;rw [Lib.splitB_data,List.map_map];show Lib.split s.data.toList [44] = _
 rw [hs,Tt.stampsL_split start h0 h1 ds hne hd];rfl
end Go.Proofs.YtcomifbfldoeiaaGreatDoor
