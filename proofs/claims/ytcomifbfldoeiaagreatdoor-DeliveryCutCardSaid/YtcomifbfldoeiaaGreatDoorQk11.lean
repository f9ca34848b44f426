/- The lines of an event, and the program's writing of them. Plain facts on the order of identifiers, and on valid lists of events. No program in sight. Condition: none. subscriber.find with slices.BinarySearchFunc: its contract. Plain facts: a binary search over ascending identifiers finds what Find finds. No program in sight. Condition: none. Plain facts on merging: the place of a search is the place of Put; the fold over a feed's events; the merged list stays valid. No program in sight. Condition: none. -/
import Derived.Test.YtcomifbfldoeiaaGreatDoorQk7
import Derived.Test.YtcomifbfldoeiaaGreatDoorQk8
import Derived.Test.YtcomifbfldoeiaaGreatDoorGenE
import Derived.Test.YtcomifbfldoeiaaGreatDoorQk10
import Derived.Sort.Walk0
open List renaming flatten_cons->xa,length_cons->xc,length_nil->xd,append_nil->xe,flatten_nil->xf,length_append->xg,map_cons->xh,map_nil->xi,append_assoc->xj,cons_append->xk,nil_append->xl,getElem?_eq_getElem->xm,getElem?_eq_some_iff->xo,map_append->xq,mem_cons_self->xu,eq_nil_of_length_eq_zero->xv,mem_cons_of_mem->xw,getElem?_map->xx
open Nat renaming le_trans->xb,le_refl->xn,zero_add->xp,lt_of_lt_of_le->xr
open Bool renaming and_eq_true->xy
set_option maxRecDepth 100000
set_option maxHeartbeats 40000000
namespace Go.Proofs.YtcomifbfldoeiaaGreatDoor
open Go.RowKit
def evA (e : Ev) (z : List UInt8) : List (List UInt8) :=
 [[66,69,71,73,78,58,86,69,86,69,78,84],[85,73,68,58] ++ e.uid.data.toList,[83,69,81,85,69,78,67,69,58] ++ Lib.decDigits e.seq.toNat,[68,84,83,84,65,82,84,59,84,90,73,68,61] ++ z ++ [58] ++ Tt.stampL e.days.first e.start,[68,85,82,65,84,73,79,78,58,80,84] ++ Lib.decDigits e.mins.toNat ++ [77],[82,82,85,76,69,58] ++ Tt.ruleL e.days]
def evX (e : Ev) (z : List UInt8) : List (List UInt8):=if e.days.ex = [] then [] else [[69,88,68,65,84,69,59,84,90,73,68,61] ++ z ++ [58] ++ Tt.stampsL e.start e.days.ex]
def evR (e : Ev) (z : List UInt8) : List (List UInt8):=if e.days.xt = [] then [] else [[82,68,65,84,69,59,84,90,73,68,61] ++ z ++ [58] ++ Tt.stampsL e.start e.days.xt]
def evS (e : Ev) : List (List UInt8):=[[83,85,77,77,65,82,89,58] ++ Tt.esc e.summ.data.toList]
def evL (e : Ev) : List (List UInt8):=if e.loc = ⟨#[]⟩ then [] else [[76,79,67,65,84,73,79,78,58] ++ Tt.esc e.loc.data.toList]
def evC (e : Ev) : List (List UInt8):=[if e.canc = true then [83,84,65,84,85,83,58,67,65,78,67,69,76,76,69,68] else [83,84,65,84,85,83,58,67,79,78,70,73,82,77,69,68],[69,78,68,58,86,69,86,69,78,84]]
def evLines (e : Ev) (z : List UInt8) : List (List UInt8):=evA e z ++ evX e z ++ evR e z ++ evS e ++ evL e ++ evC e
theorem check_all {e : Ev} {v : Int} (h : checkV e v = 0) : 1 <= e.seq /\ e.seq <= v /\ Tt.serV e.days = 0 /\ Tt.serDays e.days ≠ [] /\ 0 <= e.start /\ e.start < 1440 /\ 1 <= e.mins /\ e.mins <= 1440 /\ e.summ.size ≠ 0 /\ Tt.labB e.summ.data.toList = true /\ Tt.labB e.loc.data.toList = true:=by
 unfold checkV at h;split at h
 ·cases h
 ·split at h
  ·contradiction
  ·split at h
   ·cases h
   ·split at h
    ·cases h
    ·split at h
     ·cases h
     ·rename_i h1 h2 h3 h4 h5
      refine ⟨by omega,by omega,by simpa using h2,h3,by omega,by omega,by omega,by omega,?_,?_,?_⟩
      ·exact fun hz => h5 (.inl hz)
      ·cases hl : Tt.labB e.summ.data.toList with
       | true => rfl
       | false => exact absurd (.inr (.inl hl)) h5
      ·cases hl : Tt.labB e.loc.data.toList with
       | true => rfl
       | false => exact absurd (.inr (.inr hl)) h5
theorem lab_size {s : ByteArray} (h : Tt.labB s.data.toList = true) : s.size <= 64:=by
 unfold Tt.labB at h;rw [xy,decide_eq_true_eq] at h;rw [Lib.size_eq];exact h.2
theorem head_days {s : Tt.Ser} (h : Tt.serV s = 0) : (∀ d ∈ s.ex,0 <= d /\ d <= 36524) /\ (∀ d ∈ s.xt,0 <= d /\ d <= 36524):=by
 obtain ⟨hh,h2,h3⟩:=(Tt.serV_zero s).1 h;have f0:=hh.f0;have l1:=hh.l1;constructor
 ·intro d hd;have hr:=Tt.reg_range ((Tt.listV_ok 12 (Tt.regB s) (by decide) s.ex none h2).1 d hd).1;omega
 ·intro d hd;have hk:=((Tt.listV_ok 11 (Tt.extB s) (by decide) s.xt none h3).1 d hd).1;rcases Int.lt_or_le d s.first with hc | hc
  ·rw [Tt.extB_out s d (.inl hc)] at hk;cases hk
  ·rcases Int.lt_or_le s.last d with hc2 | hc2
   ·rw [Tt.extB_out s d (.inr hc2)] at hk;cases hk
   ·omega
theorem rule_len {s : Tt.Ser} (h : Tt.Head s) : (Tt.ruleL s).length <= 80:=by
 have h1:=Tt.byL_len s.wd 7 (xn _);have h2 : (Lib.decDigits s.every.toNat).length = 1:=by rw [Lib.decDigits_one (by have:=h.e0;have:=h.e1;omega)];rfl
 unfold Tt.ruleL;simp only [xg,h2,Tt.dateL_len,xc,xd];omega
theorem loc_empty {s : ByteArray} (h : false = !s.toList.isEmpty) : s = ⟨#[]⟩:=by
 rw [Lib.toList_data] at h;refine ByteArray.ext (Array.toList_inj.mp ?_);cases hs : s.data.toList with
 | nil => rfl
 | cons a r => rw [hs] at h;cases h
theorem loc_some {s : ByteArray} (h : true = !s.toList.isEmpty) : s ≠ ⟨#[]⟩:=by
 rintro rfl;rw [Lib.toList_data] at h;cases h
theorem one_int {w : World} (x : Int) : Ints (w.heap.size + 1) (w.alloc (.cells #[.int .i64 x] 3)) (some ⟨w.heap.size,0,none⟩) [x]:=by
 intro j y hj;rcases j with _ | j
 ·simp at hj;subst hj;exact ⟨_,rfl,Nat.lt_succ_self _,cell_one w _ _ 0 _ rfl⟩
 ·simp at hj
theorem event173 (b B : Nat) (xs : List ByteArray) (e : Ev) (ver : Int) (pa pb : Option Addr) (ca cb : Nat) (z : ByteArray) (w : World) (hbuf : Buf b B xs w) (hB : B <= w.heap.size) (hb6 : 6 < b) (hxs : xs.length <= 100000) (hck : checkV e ver = 0) (hver : ver <= 64) (hu : e.uid.size <= 1000) (hz : z.size <= 1000)
  (hI : Ints b w pa e.days.ex) (hI' : Ints b w pb e.days.xt) (hL : Lens w) (hP : Pow w) :
  Calls Tryz.prog 133 #[.pointer (some ⟨b,0,none⟩),evVal e (.slice pa e.days.ex.length ca) (.slice pb e.days.xt.length cb),.string z] w fun x w' => x = .returned (.tuple #[]) /\ Buf b B (xs ++ (evLines e z.data.toList).map str) w' /\ But b B w w' /\ Keep9 b w w':=by
 obtain ⟨q0,q1,hsv, -,st0,st1,mi0,mi1, -,hls,hll⟩:=check_all hck;have hss:=lab_size hls;have hsl:=lab_size hll;have HH:=Lh ((Tt.serV_zero e.days).1 hsv).1;have HSV:=Lh hsv;have hf0:=HH.out.f0;have hf1:=HH.out.f1;have hxn : e.days.ex.length <= 140 /\ e.days.xt.length <= 140:=by have:=HH.out.n;omega
 have HDD:=Lh (head_days hsv);have HI:=Lh hI;have HI':=Lh hI';have HL:=Lh hL;have HP:=Lh hP;have hbB : b <= B:=Nat.le_of_lt hbuf.lt;have hb3 : 6 < b:=by omega
 have hGb : w.heap.size ≠ b:=by have:=hbuf.lt;omega
 have HF0:=Lh (hbuf.kept (below_box w (.cells (evCells e (.slice pa e.days.ex.length ca) (.slice pb e.days.xt.length cb)) 104)));have HG0:=Lh (Blk.new w (evCells e (.slice pa e.days.ex.length ca) (.slice pb e.days.xt.length cb)) 104);have HK0:=Lh (But.of_below (b:=b) ((below_box w (.cells (evCells e (.slice pa e.days.ex.length ca) (.slice pb e.days.xt.length cb)) 104)).mono hB));have HQ0:=Lh (Keep9.made (b:=b) (below_box w (.cells (evCells e (.slice pa e.days.ex.length ca) (.slice pb e.days.xt.length cb)) 104)));obtain ⟨G,hG⟩ : ∃ G,G = w.heap.size:=⟨_,rfl⟩
 obtain ⟨w0,hw0⟩ : ∃ w0,w0 = w.alloc (.cells (evCells e (.slice pa e.days.ex.length ca) (.slice pb e.days.xt.length cb)) 104):=⟨_,rfl⟩
 rw [<- hw0] at HF0 HG0 HK0 HQ0;rw [<- hG] at HG0 hGb;obtain ⟨y0,hy0⟩ : ∃ y0,y0 = xs:=⟨_,rfl⟩
 have HY0:=Lh hy0;have HN0:=Lh (show y0.length <= xs.length + 0 from by rw [hy0];omega);rw [<- hy0] at HF0;have HC : Hid (Calls Tryz.prog 195 #[serVal e.days (.slice pa e.days.ex.length ca) (.slice pb e.days.xt.length cb)] w0 fun x w' => x = .returned (.tuple #[.string ⟨(Tt.ruleL e.days).toArray⟩,.int .i64 0]) /\ Below w0.heap.size w0 w'):=Lh (format250 e.days b w0 hsv pa pb ca cb (xb hbB (xb hB HK0.out.size)) (hI.below (HK0.out.below (xn b) hbB)) (hI'.below (HK0.out.below (xn b) hbB)) (hL.below hb3 (HK0.out.below (xn b) hbB)) (hP.below hb6 (HK0.out.below (xn b) hbB)) (xr hb6 (xb hbB (xb hB HK0.out.size))));have HIX : Hid (∀ W : World,But b B w W -> Ints b W pa e.days.ex):=Lh (fun W h => hI.below (h.below (xn b) hbB));have HIR : Hid (∀ W : World,But b B w W -> Ints b W pb e.days.xt):=Lh (fun W h => hI'.below (h.below (xn b) hbB));obtain ⟨ex,hex⟩ : ∃ n,n = e.days.ex.length:=⟨_,rfl⟩
 obtain ⟨xt,hxt⟩ : ∃ n,n = e.days.xt.length:=⟨_,rfl⟩
 have HEX:=Lh hex;have HXT:=Lh hxt;unfold serVal at HC;unfold evVal;unfold evCells at hw0 ⊢;rw [<- hex,<- hxt] at HG0 HC hw0 hxn ⊢;clear hbuf hck hsv hls hll hI hI' hL hP hy0 hex hxt HI HI';go_enter Tryz.func133,Tryz.ntmps133;go_upto_region 1 with (fail);rw [<- hw0,<- hG];clear hw0 hG;obtain ⟨c0,c1,c2,c3,c4,c5,c6,c7,c8,c9,c10,c11,c12⟩:=EvBox.c (e:=e) (v:=.slice pa ex ca) (v':=.slice pb xt cb) HG0.out;simp only [xp] at c0 c1 c2 c3 c4 c5 c6 c7 c8 c9 c10 c11 c12;go_wp2_with fail;refine (HC.out).mono ?_;rintro x w1 ⟨rfl,hb⟩;obtain ⟨t1,ht⟩ : ∃ t,t = (⟨(Tt.ruleL e.days).toArray⟩ : ByteArray):=⟨_,rfl⟩
 have zt1 : t1.size <= 80:=by rw [ht,size_mk];exact rule_len HH.out
 rw [<- ht];have HT1:=Lh (show t1.data.toList = Tt.ruleL e.days from by rw [ht]);clear ht;clear c0 c1 c2 c3 c4 c5 c6 c7 c8 c9 c10 c11 c12;have HF1:=Lh (HF0.out.kept hb);have HG1:=Lh (HG0.out.below hb HG0.out.lt);have HK1:=Lh (HK0.out.trans (But.of_below (hb.mono (xb hB HK0.out.size))));have HQ1:=Lh (HQ0.out.trans (Keep9.made hb));clear hb HF0 HG0 HK0 HQ0;clear HC;go_wp2_with fail;refine (put_parts2 b B w1.heap.size y0 [⟨#[66,69,71,73,78,58,86,69,86,69,78,84]⟩] w1 rfl HF1.out (xb hB HK1.out.size) (by simp) (by simp only [xh,xi,xa,xf,xe,xc,xd];omega) (by have:=HN0.out;omega)).mono ?_;rintro x w2 ⟨rfl,hf,hk,hq⟩;obtain ⟨y2,hy⟩ : ∃ y,y = y0 ++ [str ([66,69,71,73,78,58,86,69,86,69,78,84])]:=⟨_,rfl⟩
 have HF2:=Lh (show Buf b B y2 w2 from by rw [hy];simpa only [xh,xi,xa,xf,xe,xj,xk,xl] using hf);have HY2:=Lh hy;have HN2:=Lh (show y2.length <= xs.length + 1 from by rw [hy,xg];have:=HN0.out;simp only [xc,xd];omega);have HK2:=Lh (HK1.out.trans hk);have HG2:=Lh (hq G _ 104 (by decide) hGb HG1.out);have HQ2:=Lh (HQ1.out.trans hq);clear hf hy hk hq HF1 HG1 HK1 HQ1;obtain ⟨c0,c1,c2,c3,c4,c5,c6,c7,c8,c9,c10,c11,c12⟩:=EvBox.c (e:=e) (v:=.slice pa ex ca) (v':=.slice pb xt cb) HG2.out;simp only [xp] at c0 c1 c2 c3 c4 c5 c6 c7 c8 c9 c10 c11 c12;go_wp2_with fail;refine (put_parts2 b B w2.heap.size y2 [⟨#[85,73,68,58]⟩,e.uid] w2 rfl HF2.out (xb hB HK2.out.size) (by simp) (by simp only [xh,xi,xa,xf,xe,xg,xc,xd,<- Lib.size_eq];omega) (by have:=HN2.out;omega)).mono ?_;rintro x w3 ⟨rfl,hf,hk,hq⟩;obtain ⟨y3,hy⟩ : ∃ y,y = y2 ++ [str ([85,73,68,58] ++ e.uid.data.toList)]:=⟨_,rfl⟩
 have HF3:=Lh (show Buf b B y3 w3 from by rw [hy];simpa only [xh,xi,xa,xf,xe,xj,xk,xl] using hf);have HY3:=Lh hy;have HN3:=Lh (show y3.length <= xs.length + 2 from by rw [hy,xg];have:=HN2.out;simp only [xc,xd];omega);have HK3:=Lh (HK2.out.trans hk);have HG3:=Lh (hq G _ 104 (by decide) hGb HG2.out);have HQ3:=Lh (HQ2.out.trans hq);clear hf hy hk hq HF2 HG2 HK2 HQ2;clear c0 c1 c2 c3 c4 c5 c6 c7 c8 c9 c10 c11 c12;obtain ⟨c0,c1,c2,c3,c4,c5,c6,c7,c8,c9,c10,c11,c12⟩:=EvBox.c (e:=e) (v:=.slice pa ex ca) (v':=.slice pb xt cb) HG3.out;simp only [xp] at c0 c1 c2 c3 c4 c5 c6 c7 c8 c9 c10 c11 c12;go_wp2_with fail;refine (itoa136 e.seq w3 (HP.out.below hb6 (HK3.out.below (xn b) hbB)) (by omega) (by omega)).mono ?_;rintro x w4 ⟨rfl,hb⟩;obtain ⟨t4,ht⟩ : ∃ t,t = (⟨(Lib.decDigits e.seq.toNat).toArray⟩ : ByteArray):=⟨_,rfl⟩
 have zt4 : t4.size <= 5:=by rw [ht,size_mk];exact Tt.dec_len 4 _ (by omega)
 rw [<- ht];have HT4:=Lh (show t4.data.toList = Lib.decDigits e.seq.toNat from by rw [ht]);clear ht;clear c0 c1 c2 c3 c4 c5 c6 c7 c8 c9 c10 c11 c12;have HF4:=Lh (HF3.out.kept hb);have HG4:=Lh (HG3.out.below hb HG3.out.lt);have HK4:=Lh (HK3.out.trans (But.of_below (hb.mono (xb hB HK3.out.size))));have HQ4:=Lh (HQ3.out.trans (Keep9.made hb));clear hb HF3 HG3 HK3 HQ3;go_wp2_with fail;refine (put_parts2 b B w4.heap.size y3 [⟨#[83,69,81,85,69,78,67,69,58]⟩,t4] w4 rfl HF4.out (xb hB HK4.out.size) (by simp) (by simp only [xh,xi,xa,xf,xe,xg,xc,xd,<- Lib.size_eq];omega) (by have:=HN3.out;omega)).mono ?_;rintro x w5 ⟨rfl,hf,hk,hq⟩;obtain ⟨y5,hy⟩ : ∃ y,y = y3 ++ [str ([83,69,81,85,69,78,67,69,58] ++ Lib.decDigits e.seq.toNat)]:=⟨_,rfl⟩
 have HF5:=Lh (show Buf b B y5 w5 from by rw [hy];simpa only [xh,xi,xa,xf,xe,xj,xk,xl,HT4.out] using hf);have HY5:=Lh hy;have HN5:=Lh (show y5.length <= xs.length + 3 from by rw [hy,xg];have:=HN3.out;simp only [xc,xd];omega);have HK5:=Lh (HK4.out.trans hk);have HG5:=Lh (hq G _ 104 (by decide) hGb HG4.out);have HQ5:=Lh (HQ4.out.trans hq);clear hf hy hk hq HF4 HG4 HK4 HQ4;obtain ⟨c0,c1,c2,c3,c4,c5,c6,c7,c8,c9,c10,c11,c12⟩:=EvBox.c (e:=e) (v:=.slice pa ex ca) (v':=.slice pb xt cb) HG5.out;simp only [xp] at c0 c1 c2 c3 c4 c5 c6 c7 c8 c9 c10 c11 c12;have hGlt:=HG5.out.lt;go_wp2_with fail;clear hGlt;obtain ⟨g5,hg5⟩ : ∃ g,g = w5.heap.size:=⟨_,rfl⟩
 obtain ⟨wA,hwA⟩ : ∃ W,W = w5.alloc (.cells #[.int .i64 e.days.first] 3):=⟨_,rfl⟩
 have HON:=Lh (show Ints (g5 + 1) wA (some ⟨g5,0,none⟩) [e.days.first] /\ g5 + 1 <= wA.heap.size from by rw [hwA,hg5];exact ⟨one_int _,by simp⟩);have hb : Below w5.heap.size w5 wA:=by rw [hwA];exact below_box w5 _
 rw [<- hwA,<- hg5];clear hwA hg5;clear c0 c1 c2 c3 c4 c5 c6 c7 c8 c9 c10 c11 c12;have HFA:=Lh (HF5.out.kept hb);have HGA:=Lh (HG5.out.below hb HG5.out.lt);have HKA:=Lh (HK5.out.trans (But.of_below (hb.mono (xb hB HK5.out.size))));have HQA:=Lh (HQ5.out.trans (Keep9.made hb));clear hb HF5 HG5 HK5 HQ5;refine (times251 [e.days.first] (some ⟨g5,0,none⟩) 1 e.start (g5 + 1) wA HON.out.2 HON.out.1 (by simp) (fun d hd => by rw [List.mem_singleton.1 hd];exact ⟨hf0,hf1⟩) st0 st1 (HL.out.below hb3 (HKA.out.below (xn b) hbB)) (HP.out.below hb6 (HKA.out.below (xn b) hbB)) (xr hb6 (xb hbB (xb hB HKA.out.size)))).mono ?_;rintro x w6 ⟨rfl,hb⟩;rw [show Tt.stampsL e.start [e.days.first] = Tt.stampL e.days.first e.start from rfl];obtain ⟨t6,ht⟩ : ∃ t,t = (⟨(Tt.stampL e.days.first e.start).toArray⟩ : ByteArray):=⟨_,rfl⟩
 have zt6 : t6.size <= 15:=by rw [ht,size_mk];exact Nat.le_of_eq (Tt.stampL_len _ _)
 rw [<- ht];have HT6:=Lh (show t6.data.toList = Tt.stampL e.days.first e.start from by rw [ht]);clear ht;have HF6:=Lh (HFA.out.kept hb);have HG6:=Lh (HGA.out.below hb HGA.out.lt);have HK6:=Lh (HKA.out.trans (But.of_below (hb.mono (xb hB HKA.out.size))));have HQ6:=Lh (HQA.out.trans (Keep9.made hb));clear hb HFA HGA HKA HQA;clear HON;go_wp2_with fail;refine (put_parts2 b B w6.heap.size y5 [⟨#[68,84,83,84,65,82,84,59,84,90,73,68,61]⟩,z,⟨#[58]⟩,t6] w6 rfl HF6.out (xb hB HK6.out.size) (by simp) (by simp only [xh,xi,xa,xf,xe,xg,xc,xd,<- Lib.size_eq];omega) (by have:=HN5.out;omega)).mono ?_;rintro x w7 ⟨rfl,hf,hk,hq⟩;obtain ⟨y7,hy⟩ : ∃ y,y = y5 ++ [str ([68,84,83,84,65,82,84,59,84,90,73,68,61] ++ z.data.toList ++ [58] ++ Tt.stampL e.days.first e.start)]:=⟨_,rfl⟩
 have HF7:=Lh (show Buf b B y7 w7 from by rw [hy];simpa only [xh,xi,xa,xf,xe,xj,xk,xl,HT6.out] using hf);have HY7:=Lh hy;have HN7:=Lh (show y7.length <= xs.length + 4 from by rw [hy,xg];have:=HN5.out;simp only [xc,xd];omega);have HK7:=Lh (HK6.out.trans hk);have HG7:=Lh (hq G _ 104 (by decide) hGb HG6.out);have HQ7:=Lh (HQ6.out.trans hq);clear hf hy hk hq HF6 HG6 HK6 HQ6;obtain ⟨c0,c1,c2,c3,c4,c5,c6,c7,c8,c9,c10,c11,c12⟩:=EvBox.c (e:=e) (v:=.slice pa ex ca) (v':=.slice pb xt cb) HG7.out;simp only [xp] at c0 c1 c2 c3 c4 c5 c6 c7 c8 c9 c10 c11 c12;go_wp2_with fail;refine (itoa136 e.mins w7 (HP.out.below hb6 (HK7.out.below (xn b) hbB)) (by omega) (by omega)).mono ?_;rintro x w8 ⟨rfl,hb⟩;obtain ⟨t8,ht⟩ : ∃ t,t = (⟨(Lib.decDigits e.mins.toNat).toArray⟩ : ByteArray):=⟨_,rfl⟩
 have zt8 : t8.size <= 5:=by rw [ht,size_mk];exact Tt.dec_len 4 _ (by omega)
 rw [<- ht];have HT8:=Lh (show t8.data.toList = Lib.decDigits e.mins.toNat from by rw [ht]);clear ht;clear c0 c1 c2 c3 c4 c5 c6 c7 c8 c9 c10 c11 c12;have HF8:=Lh (HF7.out.kept hb);have HG8:=Lh (HG7.out.below hb HG7.out.lt);have HK8:=Lh (HK7.out.trans (But.of_below (hb.mono (xb hB HK7.out.size))));have HQ8:=Lh (HQ7.out.trans (Keep9.made hb));clear hb HF7 HG7 HK7 HQ7;go_wp2_with fail;refine (put_parts2 b B w8.heap.size y7 [⟨#[68,85,82,65,84,73,79,78,58,80,84]⟩,t8,⟨#[77]⟩] w8 rfl HF8.out (xb hB HK8.out.size) (by simp) (by simp only [xh,xi,xa,xf,xe,xg,xc,xd,<- Lib.size_eq];omega) (by have:=HN7.out;omega)).mono ?_;rintro x w9 ⟨rfl,hf,hk,hq⟩;obtain ⟨y9,hy⟩ : ∃ y,y = y7 ++ [str ([68,85,82,65,84,73,79,78,58,80,84] ++ Lib.decDigits e.mins.toNat ++ [77])]:=⟨_,rfl⟩
 have HF9:=Lh (show Buf b B y9 w9 from by rw [hy];simpa only [xh,xi,xa,xf,xe,xj,xk,xl,HT8.out] using hf);have HY9:=Lh hy;have HN9:=Lh (show y9.length <= xs.length + 5 from by rw [hy,xg];have:=HN7.out;simp only [xc,xd];omega);have HK9:=Lh (HK8.out.trans hk);have HG9:=Lh (hq G _ 104 (by decide) hGb HG8.out);have HQ9:=Lh (HQ8.out.trans hq);clear hf hy hk hq HF8 HG8 HK8 HQ8;go_wp2_with fail;refine (put_parts2 b B w9.heap.size y9 [⟨#[82,82,85,76,69,58]⟩,t1] w9 rfl HF9.out (xb hB HK9.out.size) (by simp) (by simp only [xh,xi,xa,xf,xe,xg,xc,xd,<- Lib.size_eq];omega) (by have:=HN9.out;omega)).mono ?_;rintro x w10 ⟨rfl,hf,hk,hq⟩;obtain ⟨y10,hy⟩ : ∃ y,y = y9 ++ [str ([82,82,85,76,69,58] ++ Tt.ruleL e.days)]:=⟨_,rfl⟩
 have HF10:=Lh (show Buf b B y10 w10 from by rw [hy];simpa only [xh,xi,xa,xf,xe,xj,xk,xl,HT1.out] using hf);have HY10:=Lh hy;have HN10:=Lh (show y10.length <= xs.length + 6 from by rw [hy,xg];have:=HN9.out;simp only [xc,xd];omega);have HK10:=Lh (HK9.out.trans hk);have HG10:=Lh (hq G _ 104 (by decide) hGb HG9.out);have HQ10:=Lh (HQ9.out.trans hq);clear hf hy hk hq HF9 HG9 HK9 HQ9;have HYA:=Lh (show y10 = xs ++ (evA e z.data.toList).map str from by rw [HY10.out,HY9.out,HY7.out,HY5.out,HY3.out,HY2.out,HY0.out];simp [evA]);clear HY2 HY3 HY5 HY7 HY9 HY10 HY0;obtain ⟨c0,c1,c2,c3,c4,c5,c6,c7,c8,c9,c10,c11,c12⟩:=EvBox.c (e:=e) (v:=.slice pa ex ca) (v':=.slice pb xt cb) HG10.out;simp only [xp] at c0 c1 c2 c3 c4 c5 c6 c7 c8 c9 c10 c11 c12;go_upto_if 53 with (fail)
 go_cut [54] (fun _ wx => ∃ y : List ByteArray,y.length <= xs.length + 7 /\ Hid (y = xs ++ (evA e z.data.toList ++ evX e z.data.toList).map str) /\ Hid (Buf b B y wx) /\ Hid (Blk G (evCells e (.slice pa ex ca) (.slice pb xt cb)) 104 wx) /\ Hid (But b B w wx) /\ Hid (Keep9 b w wx))
 case first =>
  by_cases hopt : e.days.ex = []
  ·have hx0 : ¬ (0 : Int) < ex:=by have h1:=HEX.out;rw [hopt,xd] at h1;omega
   skip
   go_wp2_with fail;go_meet;exact ⟨y10,by have:=HN10.out;omega,Lh (by rw [HYA.out];unfold evX;rw [if_pos hopt,xe]),HF10,HG10,HK10,HQ10⟩
  ·have hx0 : (0 : Int) < ex:=by have h1:=HEX.out;have h2 : e.days.ex.length ≠ 0:=fun h => hopt (xv h);omega
   have HTX : Hid (Calls Tryz.prog 196 #[.slice pa ex ca,.int .i64 e.start] w10 fun x w' => x = .returned (.string ⟨(Tt.stampsL e.start e.days.ex).toArray⟩) /\ Below w10.heap.size w10 w'):=Lh (by have h:=times251 e.days.ex pa ca e.start b w10 (xb hbB (xb hB HK10.out.size)) (HIX.out w10 HK10.out) (by have:=HEX.out;omega) HDD.out.1 st0 st1 (HL.out.below hb3 (HK10.out.below (xn b) hbB)) (HP.out.below hb6 (HK10.out.below (xn b) hbB)) (xr hb6 (xb hbB (xb hB HK10.out.size)));rw [<- HEX.out] at h;exact h);go_wp2_with fail;refine (HTX.out).mono ?_;rintro x wx1 ⟨rfl,hb⟩;obtain ⟨tx1,ht⟩ : ∃ t,t = (⟨(Tt.stampsL e.start e.days.ex).toArray⟩ : ByteArray):=⟨_,rfl⟩
   have ztx1 : tx1.size <= 16000:=by rw [ht,size_mk];exact xb (Tt.stampsL_len _ _) (by have:=HEX.out;omega)
   rw [<- ht];have HTx1:=Lh (show tx1.data.toList = Tt.stampsL e.start e.days.ex from by rw [ht]);clear ht;clear c0 c1 c2 c3 c4 c5 c6 c7 c8 c9 c10 c11 c12;have HFx1:=Lh (HF10.out.kept hb);have HGx1:=Lh (HG10.out.below hb HG10.out.lt);have HKx1:=Lh (HK10.out.trans (But.of_below (hb.mono (xb hB HK10.out.size))));have HQx1:=Lh (HQ10.out.trans (Keep9.made hb));clear hb HF10 HG10 HK10 HQ10;clear HTX;go_wp2_with fail;refine (put_parts2 b B wx1.heap.size y10 [⟨#[69,88,68,65,84,69,59,84,90,73,68,61]⟩,z,⟨#[58]⟩,tx1] wx1 rfl HFx1.out (xb hB HKx1.out.size) (by simp) (by simp only [xh,xi,xa,xf,xe,xg,xc,xd,<- Lib.size_eq];omega) (by have:=HN10.out;omega)).mono ?_;rintro x wx2 ⟨rfl,hf,hk,hq⟩;obtain ⟨yx2,hy⟩ : ∃ y,y = y10 ++ [str ([69,88,68,65,84,69,59,84,90,73,68,61] ++ z.data.toList ++ [58] ++ Tt.stampsL e.start e.days.ex)]:=⟨_,rfl⟩
   have HFx2:=Lh (show Buf b B yx2 wx2 from by rw [hy];simpa only [xh,xi,xa,xf,xe,xj,xk,xl,HTx1.out] using hf);have HYx2:=Lh hy;have HNx2:=Lh (show yx2.length <= xs.length + 7 from by rw [hy,xg];have:=HN10.out;simp only [xc,xd];omega);have HKx2:=Lh (HKx1.out.trans hk);have HGx2:=Lh (hq G _ 104 (by decide) hGb HGx1.out);have HQx2:=Lh (HQx1.out.trans hq);clear hf hy hk hq HFx1 HGx1 HKx1 HQx1;go_wp2_with fail;go_meet;exact ⟨yx2,by have:=HNx2.out;omega,Lh (by rw [HYx2.out,HYA.out];unfold evX;rw [if_neg hopt];simp only [xq,xh,xi,xj]),HFx2,HGx2,HKx2,HQx2⟩
 case rest =>
  clear HF10 HG10 HK10 HQ10 HYA HN10 c0 c1 c2 c3 c4 c5 c6 c7 c8 c9 c10 c11 c12;obtain ⟨ycx,hnc,HYA,HFc,HGc,HKc,HQc⟩:=hcut;have HNcx:=Lh hnc;clear hnc;obtain ⟨c0,c1,c2,c3,c4,c5,c6,c7,c8,c9,c10,c11,c12⟩:=EvBox.c (e:=e) (v:=.slice pa ex ca) (v':=.slice pb xt cb) HGc.out;simp only [xp] at c0 c1 c2 c3 c4 c5 c6 c7 c8 c9 c10 c11 c12;go_upto_if 68 with (fail)
  go_cut [69] (fun _ wx => ∃ y : List ByteArray,y.length <= xs.length + 8 /\ Hid (y = xs ++ (evA e z.data.toList ++ evX e z.data.toList ++ evR e z.data.toList).map str) /\ Hid (Buf b B y wx) /\ Hid (Blk G (evCells e (.slice pa ex ca) (.slice pb xt cb)) 104 wx) /\ Hid (But b B w wx) /\ Hid (Keep9 b w wx))
  case first =>
   by_cases hopt : e.days.xt = []
   ·have hx0 : ¬ (0 : Int) < xt:=by have h1:=HXT.out;rw [hopt,xd] at h1;omega
    go_wp2_with fail;go_meet;exact ⟨ycx,by have:=HNcx.out;omega,Lh (by rw [HYA.out];unfold evR;rw [if_pos hopt,xe]),HFc,HGc,HKc,HQc⟩
   ·have hx0 : (0 : Int) < xt:=by have h1:=HXT.out;have h2 : e.days.xt.length ≠ 0:=fun h => hopt (xv h);omega
    have HTX : Hid (Calls Tryz.prog 196 #[.slice pb xt cb,.int .i64 e.start] wc fun x w' => x = .returned (.string ⟨(Tt.stampsL e.start e.days.xt).toArray⟩) /\ Below wc.heap.size wc w'):=Lh (by have h:=times251 e.days.xt pb cb e.start b wc (xb hbB (xb hB HKc.out.size)) (HIR.out wc HKc.out) (by have:=HXT.out;omega) HDD.out.2 st0 st1 (HL.out.below hb3 (HKc.out.below (xn b) hbB)) (HP.out.below hb6 (HKc.out.below (xn b) hbB)) (xr hb6 (xb hbB (xb hB HKc.out.size)));rw [<- HXT.out] at h;exact h);go_wp2_with fail;refine (HTX.out).mono ?_;rintro x wq1 ⟨rfl,hb⟩;obtain ⟨tq1,ht⟩ : ∃ t,t = (⟨(Tt.stampsL e.start e.days.xt).toArray⟩ : ByteArray):=⟨_,rfl⟩
    have ztq1 : tq1.size <= 16000:=by rw [ht,size_mk];exact xb (Tt.stampsL_len _ _) (by have:=HXT.out;omega)
    rw [<- ht];have HTq1:=Lh (show tq1.data.toList = Tt.stampsL e.start e.days.xt from by rw [ht]);clear ht;clear c0 c1 c2 c3 c4 c5 c6 c7 c8 c9 c10 c11 c12;have HFq1:=Lh (HFc.out.kept hb);have HGq1:=Lh (HGc.out.below hb HGc.out.lt);have HKq1:=Lh (HKc.out.trans (But.of_below (hb.mono (xb hB HKc.out.size))));have HQq1:=Lh (HQc.out.trans (Keep9.made hb));clear hb HFc HGc HKc HQc;clear HTX;go_wp2_with fail;refine (put_parts2 b B wq1.heap.size ycx [⟨#[82,68,65,84,69,59,84,90,73,68,61]⟩,z,⟨#[58]⟩,tq1] wq1 rfl HFq1.out (xb hB HKq1.out.size) (by simp) (by simp only [xh,xi,xa,xf,xe,xg,xc,xd,<- Lib.size_eq];omega) (by have:=HNcx.out;omega)).mono ?_;rintro x wq2 ⟨rfl,hf,hk,hq⟩;obtain ⟨yq2,hy⟩ : ∃ y,y = ycx ++ [str ([82,68,65,84,69,59,84,90,73,68,61] ++ z.data.toList ++ [58] ++ Tt.stampsL e.start e.days.xt)]:=⟨_,rfl⟩
    have HFq2:=Lh (show Buf b B yq2 wq2 from by rw [hy];simpa only [xh,xi,xa,xf,xe,xj,xk,xl,HTq1.out] using hf);have HYq2:=Lh hy;have HNq2:=Lh (show yq2.length <= xs.length + 8 from by rw [hy,xg];have:=HNcx.out;simp only [xc,xd];omega);have HKq2:=Lh (HKq1.out.trans hk);have HGq2:=Lh (hq G _ 104 (by decide) hGb HGq1.out);have HQq2:=Lh (HQq1.out.trans hq);clear hf hy hk hq HFq1 HGq1 HKq1 HQq1;go_wp2_with fail;go_meet;exact ⟨yq2,by have:=HNq2.out;omega,Lh (by rw [HYq2.out,HYA.out];unfold evR;rw [if_neg hopt];simp only [xq,xh,xi,xj]),HFq2,HGq2,HKq2,HQq2⟩
  case rest =>
   clear HFc HGc HKc HQc HYA HNcx c0 c1 c2 c3 c4 c5 c6 c7 c8 c9 c10 c11 c12;obtain ⟨ycq,hnc,HYA,HFc,HGc,HKc,HQc⟩:=hcut;have HNcq:=Lh hnc;clear hnc;obtain ⟨c0,c1,c2,c3,c4,c5,c6,c7,c8,c9,c10,c11,c12⟩:=EvBox.c (e:=e) (v:=.slice pa ex ca) (v':=.slice pb xt cb) HGc.out;simp only [xp] at c0 c1 c2 c3 c4 c5 c6 c7 c8 c9 c10 c11 c12;go_wp2_with fail;refine (escape_any e.summ wc (by omega)).mono ?_;rintro x wrq1 ⟨rfl,hb⟩;obtain ⟨trq1,ht⟩ : ∃ t,t = (⟨(Tt.esc e.summ.data.toList).toArray⟩ : ByteArray):=⟨_,rfl⟩
   have ztrq1 : trq1.size <= 128:=by rw [ht,size_mk];exact xb (Tt.esc_length _) (by rw [<- Lib.size_eq];omega)
   rw [<- ht];have HTrq1:=Lh (show trq1.data.toList = Tt.esc e.summ.data.toList from by rw [ht]);clear ht;clear c0 c1 c2 c3 c4 c5 c6 c7 c8 c9 c10 c11 c12;have HFrq1:=Lh (HFc.out.kept hb);have HGrq1:=Lh (HGc.out.below hb HGc.out.lt);have HKrq1:=Lh (HKc.out.trans (But.of_below (hb.mono (xb hB HKc.out.size))));have HQrq1:=Lh (HQc.out.trans (Keep9.made hb));clear hb HFc HGc HKc HQc;go_wp2_with fail;refine (put_parts2 b B wrq1.heap.size ycq [⟨#[83,85,77,77,65,82,89,58]⟩,trq1] wrq1 rfl HFrq1.out (xb hB HKrq1.out.size) (by simp) (by simp only [xh,xi,xa,xf,xe,xg,xc,xd,<- Lib.size_eq];omega) (by have:=HNcq.out;omega)).mono ?_;rintro x wrq2 ⟨rfl,hf,hk,hq⟩;obtain ⟨yrq2,hy⟩ : ∃ y,y = ycq ++ [str ([83,85,77,77,65,82,89,58] ++ Tt.esc e.summ.data.toList)]:=⟨_,rfl⟩
   have HFrq2:=Lh (show Buf b B yrq2 wrq2 from by rw [hy];simpa only [xh,xi,xa,xf,xe,xj,xk,xl,HTrq1.out] using hf);have HYrq2:=Lh hy;have HNrq2:=Lh (show yrq2.length <= xs.length + 9 from by rw [hy,xg];have:=HNcq.out;simp only [xc,xd];omega);have HKrq2:=Lh (HKrq1.out.trans hk);have HGrq2:=Lh (hq G _ 104 (by decide) hGb HGrq1.out);have HQrq2:=Lh (HQrq1.out.trans hq);clear hf hy hk hq HFrq1 HGrq1 HKrq1 HQrq1;have HYA:=Lh (show yrq2 = xs ++ (evA e z.data.toList ++ evX e z.data.toList ++ evR e z.data.toList ++ evS e).map str from by rw [HYrq2.out,HYA.out];simp only [evS,xq,xh,xi,xj]);obtain ⟨c0,c1,c2,c3,c4,c5,c6,c7,c8,c9,c10,c11,c12⟩:=EvBox.c (e:=e) (v:=.slice pa ex ca) (v':=.slice pb xt cb) HGrq2.out;simp only [xp] at c0 c1 c2 c3 c4 c5 c6 c7 c8 c9 c10 c11 c12;go_upto_if 87 with (fail)
   obtain ⟨bl,hbl⟩ : ∃ bl,bl = (!e.loc.toList.isEmpty):=⟨_,rfl⟩
   rw [<- hbl];have HBL:=Lh hbl;clear hbl;go_cut [88] (fun _ wx => ∃ y : List ByteArray,y.length <= xs.length + 10 /\ Hid (y = xs ++ (evA e z.data.toList ++ evX e z.data.toList ++ evR e z.data.toList ++ evS e ++ evL e).map str) /\ Hid (Buf b B y wx) /\ Hid (Blk G (evCells e (.slice pa ex ca) (.slice pb xt cb)) 104 wx) /\ Hid (But b B w wx) /\ Hid (Keep9 b w wx))
   case first =>
    cases bl
    ·have HOPT:=Lh (loc_empty HBL.out);go_wp2_with fail;go_meet;exact ⟨yrq2,by have:=HNrq2.out;omega,Lh (by rw [HYA.out];unfold evL;rw [if_pos HOPT.out,xe]),HFrq2,HGrq2,HKrq2,HQrq2⟩
    ·have HOPT:=Lh (loc_some HBL.out);go_wp2_with fail;refine (escape_any e.loc wrq2 (by omega)).mono ?_;rintro x wl1 ⟨rfl,hb⟩;obtain ⟨tl1,ht⟩ : ∃ t,t = (⟨(Tt.esc e.loc.data.toList).toArray⟩ : ByteArray):=⟨_,rfl⟩
     have ztl1 : tl1.size <= 128:=by rw [ht,size_mk];exact xb (Tt.esc_length _) (by rw [<- Lib.size_eq];omega)
     rw [<- ht];have HTl1:=Lh (show tl1.data.toList = Tt.esc e.loc.data.toList from by rw [ht]);clear ht;clear c0 c1 c2 c3 c4 c5 c6 c7 c8 c9 c10 c11 c12;have HFl1:=Lh (HFrq2.out.kept hb);have HGl1:=Lh (HGrq2.out.below hb HGrq2.out.lt);have HKl1:=Lh (HKrq2.out.trans (But.of_below (hb.mono (xb hB HKrq2.out.size))));have HQl1:=Lh (HQrq2.out.trans (Keep9.made hb));clear hb HFrq2 HGrq2 HKrq2 HQrq2;go_wp2_with fail;refine (put_parts2 b B wl1.heap.size yrq2 [⟨#[76,79,67,65,84,73,79,78,58]⟩,tl1] wl1 rfl HFl1.out (xb hB HKl1.out.size) (by simp) (by simp only [xh,xi,xa,xf,xe,xg,xc,xd,<- Lib.size_eq];omega) (by have:=HNrq2.out;omega)).mono ?_;rintro x wl2 ⟨rfl,hf,hk,hq⟩;obtain ⟨yl2,hy⟩ : ∃ y,y = yrq2 ++ [str ([76,79,67,65,84,73,79,78,58] ++ Tt.esc e.loc.data.toList)]:=⟨_,rfl⟩
     have HFl2:=Lh (show Buf b B yl2 wl2 from by rw [hy];simpa only [xh,xi,xa,xf,xe,xj,xk,xl,HTl1.out] using hf);have HYl2:=Lh hy;have HNl2:=Lh (show yl2.length <= xs.length + 10 from by rw [hy,xg];have:=HNrq2.out;simp only [xc,xd];omega);have HKl2:=Lh (HKl1.out.trans hk);have HGl2:=Lh (hq G _ 104 (by decide) hGb HGl1.out);have HQl2:=Lh (HQl1.out.trans hq);clear hf hy hk hq HFl1 HGl1 HKl1 HQl1;go_wp2_with fail;go_meet;exact ⟨yl2,by have:=HNl2.out;omega,Lh (by rw [HYl2.out,HYA.out];unfold evL;rw [if_neg HOPT.out];simp only [xq,xh,xi,xj]),HFl2,HGl2,HKl2,HQl2⟩
   case rest =>
    clear HFrq2 HGrq2 HKrq2 HQrq2 HYA HNrq2 c0 c1 c2 c3 c4 c5 c6 c7 c8 c9 c10 c11 c12;obtain ⟨ycl,hnc,HYA,HFc,HGc,HKc,HQc⟩:=hcut;have HNcl:=Lh hnc;clear hnc;obtain ⟨c0,c1,c2,c3,c4,c5,c6,c7,c8,c9,c10,c11,c12⟩:=EvBox.c (e:=e) (v:=.slice pa ex ca) (v':=.slice pb xt cb) HGc.out;simp only [xp] at c0 c1 c2 c3 c4 c5 c6 c7 c8 c9 c10 c11 c12;cases hcn : e.canc
    ·rw [hcn] at c2;go_wp2_with fail;refine (put_parts2 b B wc.heap.size ycl [⟨#[83,84,65,84,85,83,58,67,79,78,70,73,82,77,69,68]⟩] wc rfl HFc.out (xb hB HKc.out.size) (by simp) (by simp only [xh,xi,xa,xf,xe,xc,xd];omega) (by have:=HNcl.out;omega)).mono ?_;rintro x wnf1 ⟨rfl,hf,hk,hq⟩;obtain ⟨ynf1,hy⟩ : ∃ y,y = ycl ++ [str ([83,84,65,84,85,83,58,67,79,78,70,73,82,77,69,68])]:=⟨_,rfl⟩
     have HFnf1:=Lh (show Buf b B ynf1 wnf1 from by rw [hy];simpa only [xh,xi,xa,xf,xe,xj,xk,xl] using hf);have HYnf1:=Lh hy;have HNnf1:=Lh (show ynf1.length <= xs.length + 11 from by rw [hy,xg];have:=HNcl.out;simp only [xc,xd];omega);have HKnf1:=Lh (HKc.out.trans hk);have HGnf1:=Lh (hq G _ 104 (by decide) hGb HGc.out);have HQnf1:=Lh (HQc.out.trans hq);clear hf hy hk hq HFc HGc HKc HQc;clear c0 c1 c2 c3 c4 c5 c6 c7 c8 c9 c10 c11 c12;go_wp2_with fail;refine (put_parts2 b B wnf1.heap.size ynf1 [⟨#[69,78,68,58,86,69,86,69,78,84]⟩] wnf1 rfl HFnf1.out (xb hB HKnf1.out.size) (by simp) (by simp only [xh,xi,xa,xf,xe,xc,xd];omega) (by have:=HNnf1.out;omega)).mono ?_;rintro x wnf2 ⟨rfl,hf,hk,hq⟩;obtain ⟨ynf2,hy⟩ : ∃ y,y = ynf1 ++ [str ([69,78,68,58,86,69,86,69,78,84])]:=⟨_,rfl⟩
     have HFnf2:=Lh (show Buf b B ynf2 wnf2 from by rw [hy];simpa only [xh,xi,xa,xf,xe,xj,xk,xl] using hf);have HYnf2:=Lh hy;have HNnf2:=Lh (show ynf2.length <= xs.length + 12 from by rw [hy,xg];have:=HNnf1.out;simp only [xc,xd];omega);have HKnf2:=Lh (HKnf1.out.trans hk);have HGnf2:=Lh (hq G _ 104 (by decide) hGb HGnf1.out);have HQnf2:=Lh (HQnf1.out.trans hq);clear hf hy hk hq HFnf1 HGnf1 HKnf1 HQnf1;go_wp2_with fail;go_end0
     have HFX:=Lh (show ynf2 = xs ++ (evLines e z.data.toList).map str from by rw [HYnf2.out,HYnf1.out,HYA.out];unfold evLines evC;rw [hcn];simp only [xq,xh,xi,xj,Bool.false_eq_true,if_false,xk,xl]);exact ⟨rfl,by rw [<- HFX.out];exact HFnf2.out,HKnf2.out,HQnf2.out⟩
    ·rw [hcn] at c2;go_wp2_with fail;refine (put_parts2 b B wc.heap.size ycl [⟨#[83,84,65,84,85,83,58,67,65,78,67,69,76,76,69,68]⟩] wc rfl HFc.out (xb hB HKc.out.size) (by simp) (by simp only [xh,xi,xa,xf,xe,xc,xd];omega) (by have:=HNcl.out;omega)).mono ?_;rintro x wnt1 ⟨rfl,hf,hk,hq⟩;obtain ⟨ynt1,hy⟩ : ∃ y,y = ycl ++ [str ([83,84,65,84,85,83,58,67,65,78,67,69,76,76,69,68])]:=⟨_,rfl⟩
     have HFnt1:=Lh (show Buf b B ynt1 wnt1 from by rw [hy];simpa only [xh,xi,xa,xf,xe,xj,xk,xl] using hf);have HYnt1:=Lh hy;have HNnt1:=Lh (show ynt1.length <= xs.length + 11 from by rw [hy,xg];have:=HNcl.out;simp only [xc,xd];omega);have HKnt1:=Lh (HKc.out.trans hk);have HGnt1:=Lh (hq G _ 104 (by decide) hGb HGc.out);have HQnt1:=Lh (HQc.out.trans hq);clear hf hy hk hq HFc HGc HKc HQc;clear c0 c1 c2 c3 c4 c5 c6 c7 c8 c9 c10 c11 c12;go_wp2_with fail;refine (put_parts2 b B wnt1.heap.size ynt1 [⟨#[69,78,68,58,86,69,86,69,78,84]⟩] wnt1 rfl HFnt1.out (xb hB HKnt1.out.size) (by simp) (by simp only [xh,xi,xa,xf,xe,xc,xd];omega) (by have:=HNnt1.out;omega)).mono ?_;rintro x wnt2 ⟨rfl,hf,hk,hq⟩;obtain ⟨ynt2,hy⟩ : ∃ y,y = ynt1 ++ [str ([69,78,68,58,86,69,86,69,78,84])]:=⟨_,rfl⟩
     have HFnt2:=Lh (show Buf b B ynt2 wnt2 from by rw [hy];simpa only [xh,xi,xa,xf,xe,xj,xk,xl] using hf);have HYnt2:=Lh hy;have HNnt2:=Lh (show ynt2.length <= xs.length + 12 from by rw [hy,xg];have:=HNnt1.out;simp only [xc,xd];omega);have HKnt2:=Lh (HKnt1.out.trans hk);have HGnt2:=Lh (hq G _ 104 (by decide) hGb HGnt1.out);have HQnt2:=Lh (HQnt1.out.trans hq);clear hf hy hk hq HFnt1 HGnt1 HKnt1 HQnt1;go_wp2_with fail;go_end0
     have HFX:=Lh (show ynt2 = xs ++ (evLines e z.data.toList).map str from by rw [HYnt2.out,HYnt1.out,HYA.out];unfold evLines evC;rw [hcn];simp only [xq,xh,xi,xj,if_true,xk,xl]);exact ⟨rfl,by rw [<- HFX.out];exact HFnt2.out,HKnt2.out,HQnt2.out⟩
theorem lessU_iff (a b : ByteArray) : lessU a b = true ↔ a.toList < b.toList:=by unfold lessU;rw [bytesLess_eq];simp
theorem lessU_trans {a b c : ByteArray} (h : lessU a b = true) (k : lessU b c = true) : lessU a c = true:=by
 rw [lessU_iff] at *;exact List.lt_trans h k
theorem lessU_irrefl (a : ByteArray) : lessU a a = false:=by
 rw [<- Bool.not_eq_true,lessU_iff];exact List.lt_irrefl _
theorem late_less {p u : ByteArray} (h : lateU (some p) u = false) : lessU p u = true:=by
 have h : (Op.bytesLess u.toList p.toList || u.toList == p.toList) = false:=h;rw [Bool.or_eq_false_iff] at h;obtain ⟨h1,h2⟩:=h;rw [bytesLess_eq,decide_eq_false_iff_not] at h1;rw [beq_eq_false_iff_ne] at h2;rw [lessU_iff];exact Std.lt_of_le_of_ne (List.not_lt.1 h1) (fun e => h2 e.symm)
def UpU (es : List Ev) : Prop:=∀ (i j : Nat) (a b : Ev),i < j -> es[i]? = some a -> es[j]? = some b -> lessU a.uid b.uid = true
theorem evsV_head (v : Int) (p : ByteArray) (es : List Ev) (h : evsV v (some p) es = 0) : ∀ (j : Nat) (b : Ev),es[j]? = some b -> lessU p b.uid = true:=by
 induction es generalizing p with
 | nil => intro j b hb;simp at hb
 | cons e r ih =>
  intro j b hb;unfold evsV at h;split at h
  ·cases h
  ·split at h
   ·cases h
   ·rename_i h2
    have hp:=late_less (by simpa using h2);split at h
    ·rename_i h3;exact absurd h h3
    ·cases j with
     | zero => simp at hb;subst hb;exact hp
     | succ j => exact lessU_trans hp (ih e.uid h j b (by simpa using hb))
theorem evsV_up (v : Int) (p : Option ByteArray) (es : List Ev) (h : evsV v p es = 0) : UpU es:=by
 induction es generalizing p with
 | nil => intro i j a b _ ha;simp at ha
 | cons e r ih =>
  unfold evsV at h;split at h
  ·cases h
  ·split at h
   ·cases h
   ·split at h
    ·rename_i h3;exact absurd h h3
    ·intro i j a b hij ha hb;cases j with
     | zero => omega
     | succ j =>
      have hb : r[j]? = some b:=by simpa using hb
      cases i with
      | zero => simp at ha;subst ha;exact evsV_head v e.uid r h j b hb
      | succ i => exact ih (some e.uid) h i j a b (by omega) (by simpa using ha) hb
theorem less_late {p u : ByteArray} (h : lessU p u = true) : lateU (some p) u = false:=by
 rw [lessU_iff] at h;show (Op.bytesLess u.toList p.toList || u.toList == p.toList) = false
 rw [Bool.or_eq_false_iff,bytesLess_eq,decide_eq_false_iff_not,beq_eq_false_iff_ne];exact ⟨fun k => List.lt_irrefl _ (List.lt_trans h k),fun e => by rw [e] at h;exact List.lt_irrefl _ h⟩
theorem not_less_late {s u : ByteArray} (h : lessU s u = false) (hne : ¬ s = u) : lateU (some u) s = false:=by
 show (Op.bytesLess s.toList u.toList || s.toList == u.toList) = false
 rw [Bool.or_eq_false_iff];exact ⟨h,text_ne hne⟩
theorem evsV_cons (v : Int) (p : Option ByteArray) (e : Ev) (r : List Ev) : evsV v p (e :: r) = 0 ↔ rightB e.uid.data.toList = true /\ lateU p e.uid = false /\ checkV e v = 0 /\ evsV v (some e.uid) r = 0:=by
 rw [evsV];constructor
 ·intro h;split at h
  ·cases h
  ·rename_i h1
   split at h
   ·cases h
   ·rename_i h2
    split at h
    ·rename_i h3;exact absurd h h3
    ·rename_i h3;exact ⟨by simpa using h1,by simpa using h2,by simpa using h3,h⟩
 ·rintro ⟨h1,h2,h3,h4⟩;rw [if_neg (by rw [h1];simp),if_neg (by rw [h2];simp),if_neg (by rw [h3];simp)];exact h4
theorem evsV_put (v : Int) (e : Ev) (hr : rightB e.uid.data.toList = true) (hc : checkV e v = 0) : ∀ (es : List Ev) (p : Option ByteArray),lateU p e.uid = false -> evsV v p es = 0 -> evsV v p (putE e es) = 0
 | [],p,hp,_ => by
  show evsV v p [e] = 0
  exact (evsV_cons v p e []).2 ⟨hr,hp,hc,by rw [evsV]⟩
 | s :: r,p,hp,h => by
  obtain ⟨h1,h2,h3,h4⟩:=(evsV_cons v p s r).1 h;unfold putE;by_cases k1 : lessU s.uid e.uid = true
  ·rw [if_pos k1];exact (evsV_cons v p s _).2 ⟨h1,h2,h3,evsV_put v e hr hc r (some s.uid) (less_late k1) h4⟩
  ·rw [if_neg k1];by_cases k2 : s.uid = e.uid
   ·rw [if_pos k2];exact (evsV_cons v p e r).2 ⟨hr,hp,hc,by rw [<- k2];exact h4⟩
   ·rw [if_neg k2];exact (evsV_cons v p e _).2 ⟨hr,hp,hc,(evsV_cons v _ s r).2 ⟨h1,not_less_late (by simpa using k1) k2,h3,h4⟩⟩
theorem checkV_mono {e : Ev} {v v' : Int} (h : checkV e v = 0) (hv : v <= v') : checkV e v' = 0:=by
 unfold checkV at h ⊢;by_cases h1 : e.seq < 1 ∨ v < e.seq
 ·rw [if_pos h1] at h;cases h
 ·rw [if_neg h1] at h;rw [if_neg (by omega)];exact h
theorem evsV_mono {v v' : Int} (hv : v <= v') : ∀ (es : List Ev) (p : Option ByteArray),evsV v p es = 0 -> evsV v' p es = 0
 | [],_,_ => by rw [evsV]
 | s :: r,p,h => by
  obtain ⟨h1,h2,h3,h4⟩:=(evsV_cons v p s r).1 h;exact (evsV_cons v' p s r).2 ⟨h1,h2,checkV_mono h3 hv,evsV_mono hv r _ h4⟩
theorem UpU.first {es : List Ev} (h : UpU es) {i j : Nat} {a b : Ev} {u : ByteArray} (hij : i <= j) (ha : es[i]? = some a) (hb : es[j]? = some b) (hl : lessU b.uid u = true) : lessU a.uid u = true:=by
 rcases Nat.lt_or_eq_of_le hij with k | k
 ·exact lessU_trans (h i j a b k ha hb) hl
 ·subst k;rw [ha] at hb;cases hb;exact hl
def cmpU (a b : ByteArray) : Int:=Lib.compareBytes a.data.toList b.data.toList
theorem cmp155 (e : Ev) (u : ByteArray) (p p2 : Option Addr) (n n2 c c2 : Nat) (w : World) :
  Calls Tryz.prog 227 #[evVal e (.slice p n c) (.slice p2 n2 c2),.string u] w fun x w' => x = .returned (.int .i64 (cmpU e.uid u)) /\ Below w.heap.size w w':=by
 have HC : Hid (∀ W,Calls Tryz.prog 84 #[.string e.uid,.string u] W fun x w' => x = .returned (.int .i64 (cmpU e.uid u)) /\ w' = W):=Lh (fun W => Tryz.strings_Compare e.uid u W);unfold evVal evCells;go_enter Tryz.func227,Tryz.ntmps227;go_wp2_with fail;refine (HC.out _).mono ?_;rintro x w1 ⟨rfl,hw⟩;rw [hw];clear hw w1;go_wp2_with fail;go_ret;exact ⟨rfl,below_box _ _⟩
def ahead (es : List Ev) (u : ByteArray) (k : Nat) : Prop:=∃ e,es[k]? = some e /\ cmpU e.uid u < 0
def Sought (es : List Ev) (u : ByteArray) (w : World) (x : Ending) (w' : World) : Prop:=∃ (i : Nat) (f : Bool),x = .returned (.tuple #[.int .i64 i,.bool f]) /\ i <= es.length /\ (∀ k,k < i -> ahead es u k) /\ (∀ k,i <= k -> ¬ ahead es u k) /\ (f = true ↔ ∃ e,es[i]? = some e /\ cmpU e.uid u = 0) /\ Below w.heap.size w w'
theorem search154 (es : List Ev) (u : ByteArray) (ao : Option Addr) (c : Nat) (w : World) (hE : Evs w.heap.size w ao es) (hn : es.length <= 1000000000) (hS : ∀ a b,a <= b -> ahead es u b -> ahead es u a) :
  Calls Tryz.prog 226 #[.slice ao es.length c,.string u,.func (.func 227) #[] #[]] w (Sought es u w):=by
 have HE:=Lh hE;have HS:=Lh hS;clear hE hS;obtain ⟨n,hne⟩ : ∃ n,n = es.length:=⟨_,rfl⟩
 rw [<- hne] at hn ⊢;have HN:=Lh hne;clear hne;have hni : (n : Int) <= 1000000000:=by omega
 go_enter Tryz.func226,Tryz.ntmps226;go_wp2_with fail;go_loopw [9,10] (fun iv jv wr => ∃ i j : Nat,iv = .int .i64 i /\ jv = .int .i64 j /\ i <= j /\ j <= n /\ Hid (∀ k,k < i -> ahead es u k) /\ Hid (∀ k,j <= k -> ¬ ahead es u k) /\ Hid (Below w.heap.size w wr)) (fun iv jv _ => (intOf jv - intOf iv).toNat)
 case atStart => exact ⟨0,n,rfl,rfl,Nat.zero_le _,xn _,Lh (fun k h => absurd h (Nat.not_lt_zero _)),Lh (fun k h ⟨e,he,_⟩ => by have:=(xo.1 he).1;rw [<- HN.out] at this;omega),Lh (Below.refl _ _)⟩
 case round =>
  obtain ⟨i,j,rfl,rfl,hij,hjn,HA,HZ,HL⟩:=hrel;by_cases hlt : i < j
  ·have hlti : (i : Int) < j:=by omega
   have hij2 : (i : Int) + j <= 2000000000:=by omega
   obtain ⟨h,hh⟩ : ∃ h : Nat,((i : Int) + j) / 2 = h:=⟨(i + j) / 2,by omega⟩
   have hhi : i <= h:=by omega
   have hhj : h < j:=by omega
   have hhn : (h : Int) < n:=by omega
   have hke : h < es.length:=by rw [<- HN.out];omega
   obtain ⟨g,o,hao,hg,hc⟩ : ∃ g o,ao = some ⟨g,o,none⟩ /\ g < w.heap.size /\ ∀ (j : Nat) (e : Ev),es[j]? = some e -> EvB e /\ ∃ v v',EvC g (o + j * 13) e v v' w /\ SlI w.heap.size w v e.days.ex /\ SlI w.heap.size w v' e.days.xt:=by
    rcases HE.out with h | h
    ·exfalso;rw [h] at hke;simp at hke
    ·exact h
   subst hao;obtain ⟨-,v,v',hv,⟨px,kx,hx, -⟩,⟨py,ky,hy, -⟩⟩:=hc h _ (xm hke);obtain ⟨e,hee⟩ : ∃ e,e = es[h]:=⟨_,rfl⟩
   rw [<- hee] at hv hx hy;have HX:=Lh (show es[h]? = some e from by rw [xm hke,hee]);subst hx;subst hy;obtain ⟨c0,c1,c2,c3,c4,c5,c6,c7,c8,c9,c10,c11,c12⟩:=hv.below hg HL.out;clear hc hv hee;go_wp2_with fail;refine (cmp155 e u _ _ _ _ _ _ _).mono ?_;rintro x w1 ⟨rfl,hb1⟩;have HL1:=Lh (HL.out.trans (hb1.mono HL.out.size));clear hb1 c0 c1 c2 c3 c4 c5 c6 c7 c8 c9 c10 c11 c12 hh;by_cases hcmp : cmpU e.uid u < 0
   ·have HA1:=Lh (show ∀ k,k < h + 1 -> ahead es u k from fun k hk => HS.out k h (by omega) ⟨e,HX.out,hcmp⟩);go_wp2_with fail;go_roundw
    case rel => exact ⟨h + 1,j,by go_num,rfl,by omega,hjn,HA1,HZ,HL1⟩
    case measure => simp [intOf];omega
   ·have HZ1:=Lh (show ∀ k,h <= k -> ¬ ahead es u k from fun k hk ha => by
     obtain ⟨e2,he2,hlt2⟩:=HS.out h k hk ha;rw [HX.out] at he2;cases he2;exact hcmp hlt2)
    go_wp2_with fail;go_roundw
    case rel => exact ⟨i,h,rfl,rfl,by omega,by omega,HA,HZ1,HL1⟩
    case measure => simp [intOf];omega
  ·obtain rfl : i = j:=by omega
   by_cases hin : i < n
   ·have hini : (i : Int) < n:=by omega
    have hke : i < es.length:=by rw [<- HN.out];omega
    obtain ⟨g,o,hao,hg,hc⟩ : ∃ g o,ao = some ⟨g,o,none⟩ /\ g < w.heap.size /\ ∀ (j : Nat) (e : Ev),es[j]? = some e -> EvB e /\ ∃ v v',EvC g (o + j * 13) e v v' w /\ SlI w.heap.size w v e.days.ex /\ SlI w.heap.size w v' e.days.xt:=by
     rcases HE.out with h | h
     ·exfalso;rw [h] at hke;simp at hke
     ·exact h
    subst hao;obtain ⟨-,v,v',hv,⟨px,kx,hx, -⟩,⟨py,ky,hy, -⟩⟩:=hc i _ (xm hke);obtain ⟨e,hee⟩ : ∃ e,e = es[i]:=⟨_,rfl⟩
    rw [<- hee] at hv hx hy;have HX:=Lh (show es[i]? = some e from by rw [xm hke,hee]);subst hx;subst hy;obtain ⟨c0,c1,c2,c3,c4,c5,c6,c7,c8,c9,c10,c11,c12⟩:=hv.below hg HL.out;clear hc hv hee;go_wp2_with fail;refine (cmp155 e u _ _ _ _ _ _ _).mono ?_;rintro x w1 ⟨rfl,hb1⟩;have HL1:=Lh (HL.out.trans (hb1.mono HL.out.size));clear hb1 c0 c1 c2 c3 c4 c5 c6 c7 c8 c9 c10 c11 c12;have HF:=Lh (show ((cmpU e.uid u == 0) = true ↔ ∃ e2,es[i]? = some e2 /\ cmpU e2.uid u = 0) from by
     rw [beq_iff_eq];exact ⟨fun h => ⟨e,HX.out,h⟩,fun ⟨e2,h2,h3⟩ => by rw [HX.out] at h2;cases h2;exact h3⟩)
    go_wp2_with fail;go_ret2;exact ⟨i,_,rfl,by rw [<- HN.out];exact hjn,HA.out,HZ.out,HF.out,HL1.out⟩
   ·have hini : ¬ (i : Int) < n:=by omega
    have HF:=Lh (show (false = true ↔ ∃ e2,es[i]? = some e2 /\ cmpU e2.uid u = 0) from
     ⟨fun h => (by cases h),fun ⟨e2,h2,_⟩ => by have:=(xo.1 h2).1;rw [<- HN.out] at this;omega⟩)
    go_wp2_with fail;go_ret2;exact ⟨i,_,rfl,by rw [<- HN.out];exact hjn,HA.out,HZ.out,HF.out,HL.out⟩
theorem find81 (es : List Ev) (u : ByteArray) (ao : Option Addr) (c : Nat) (w : World) (hE : Evs w.heap.size w ao es) (hn : es.length <= 1000000000) (hS : ∀ a b,a <= b -> ahead es u b -> ahead es u a) :
  Calls Tryz.prog 168 #[.slice ao es.length c,.string u] w (Sought es u w):=by
 have HC:=Lh (search154 es u ao c w hE hn hS);clear hE hS;go_enter Tryz.func168,Tryz.ntmps168;go_wp2_with fail;refine HC.out.mono ?_;rintro x w1 ⟨i,f,rfl,h1,h2,h3,h4,h5⟩;have H:=Lh (And.intro h1 (And.intro h2 (And.intro h3 (And.intro h4 h5))));clear h1 h2 h3 h4 h5;go_wp2_with fail;go_ret2;exact ⟨i,f,rfl,H.out.1,H.out.2.1,H.out.2.2.1,H.out.2.2.2.1,H.out.2.2.2.2⟩
theorem findFrom_none (u : ByteArray) : ∀ (es : List Ev) (k : Int),(∀ e ∈ es,¬ e.uid = u) -> findFrom u es k = -1
 | [],_,_ => rfl
 | e :: r,k,h => by
  unfold findFrom;rw [if_neg (h e (xu ..))];exact findFrom_none u r (k + 1) (fun a ha => h a (xw _ ha))
theorem findFrom_at (u : ByteArray) : ∀ (es : List Ev) (k : Int) (i : Nat) (e : Ev),es[i]? = some e -> e.uid = u -> (∀ j a,j < i -> es[j]? = some a -> ¬ a.uid = u) -> findFrom u es k = k + i
 | [],_,_,_,h,_,_ => by simp at h
 | s :: r,k,0,e,h,he,_ => by
  simp at h;subst h;unfold findFrom;rw [if_pos he];simp
 | s :: r,k,i + 1,e,h,he,hj => by
  unfold findFrom;rw [if_neg (hj 0 s (by omega) (by simp)),findFrom_at u r (k + 1) i e (by simpa using h) he (fun j a hja ha => hj (j + 1) a (by omega) (by simpa using ha))];omega
theorem compare_less : ∀ x y : List UInt8,(Lib.compareBytes x y < 0 ↔ x < y) /\ (Lib.compareBytes x y = 0 ↔ x = y)
 | [],[] => by simp [Lib.compareBytes]
 | [],_ :: _ => by simp [Lib.compareBytes]
 | _ :: _,[] => by simp [Lib.compareBytes]
 | a :: xs,b :: ys => by
  obtain ⟨h1,h2⟩:=compare_less xs ys;unfold Lib.compareBytes;by_cases k1 : a < b
  ·rw [if_pos k1];have hne : ¬ a = b:=fun e => by rw [e] at k1;exact absurd k1 (UInt8.lt_irrefl _)
   simp [List.cons_lt_cons_iff,k1,hne]
  ·rw [if_neg k1];by_cases k2 : b < a
   ·rw [if_pos k2];have hne : ¬ a = b:=fun e => by rw [e] at k2;exact absurd k2 (UInt8.lt_irrefl _)
    simp [List.cons_lt_cons_iff,k1,hne]
   ·rw [if_neg k2];have he : a = b:=UInt8.le_antisymm (UInt8.not_lt.1 k2) (UInt8.not_lt.1 k1);subst he;simp [h1,h2]
theorem cmpU_less (a b : ByteArray) : cmpU a b < 0 ↔ lessU a b = true:=by
 rw [lessU_iff,Lib.toList_data,Lib.toList_data];exact (compare_less _ _).1
theorem cmpU_same (a b : ByteArray) : cmpU a b = 0 ↔ a = b:=by
 unfold cmpU;rw [(compare_less _ _).2];exact ⟨fun h => ByteArray.ext (Array.toList_inj.mp h),fun h => by rw [h]⟩
theorem ahead_mono {es : List Ev} (h : UpU es) (u : ByteArray) : ∀ a b,a <= b -> ahead es u b -> ahead es u a:=by
 rintro a b hab ⟨e,he,hl⟩;have hb : b < es.length:=(xo.1 he).1;obtain ⟨s,hs⟩ : ∃ s,es[a]? = some s:=⟨_,xm (by omega)⟩
 exact ⟨s,hs,(cmpU_less _ _).2 (h.first hab hs he ((cmpU_less _ _).1 hl))⟩
theorem sought_none {es : List Ev} {u : ByteArray} {i : Nat} (h : UpU es) (h1 : ∀ k,k < i -> ahead es u k) (h2 : ∀ k,i <= k -> ¬ ahead es u k) (hf : ¬ ∃ e,es[i]? = some e /\ cmpU e.uid u = 0) : findFrom u es 0 = -1:=by
 refine findFrom_none u es 0 (fun e he hu => ?_);obtain ⟨j,hj⟩:=List.mem_iff_getElem?.1 he;rcases Nat.lt_trichotomy j i with k | k | k
 ·obtain ⟨s,hs,hl⟩:=h1 j k;rw [hj] at hs;cases hs;rw [hu,(cmpU_same u u).2 rfl] at hl;exact absurd hl (by decide)
 ·subst k;exact hf ⟨e,hj,(cmpU_same _ _).2 hu⟩
 ·have hi : i < es.length:=by have:=(xo.1 hj).1;omega
  exact h2 i (xn _) ⟨es[i],xm hi,(cmpU_less _ _).2 (by rw [<- hu];exact h i j _ _ k (xm hi) hj)⟩
theorem sought_some {es : List Ev} {u : ByteArray} {i : Nat} {e : Ev} (h1 : ∀ k,k < i -> ahead es u k) (he : es[i]? = some e) (hc : cmpU e.uid u = 0) : findFrom u es 0 = i:=by
 rw [findFrom_at u es 0 i e he ((cmpU_same _ _).1 hc) (fun j a hj ha hu => ?_)]
 ·simp
 ·obtain ⟨s,hs,hl⟩:=h1 j hj;rw [ha] at hs;cases hs;rw [hu,(cmpU_same u u).2 rfl] at hl;exact absurd hl (by decide)
def noteN (c : Int) (e : Ev) (ns : List Nt) : List Nt:=if c = 0 then ns else ns ++ [⟨c,e.uid,e.seq⟩]
def stepM (s : List Ev × List Nt) (e : Ev) : List Ev × List Nt :=
 if findFrom e.uid s.1 0 < 0 then (putE e s.1,noteN (toldV true e.canc) e s.2)
 else match s.1[(findFrom e.uid s.1 0).toNat]? with
  | none => s
  | some o => if o.seq < e.seq then (putE e s.1,noteN (toldV o.canc e.canc) e s.2) else s
def mrg (es fs : List Ev) : List Ev × List Nt:=fs.foldl stepM (es,[])
def mergeV (rv tag : Int) (es : List Ev) (n : ByteArray) (v : Int) (fs : List Ev) : Int × Int × List Ev × List Nt × Int :=
 if rdOk rv es = false then (0,0,[],[],1)
 else if feedV n v fs ≠ 0 then (0,0,[],[],feedV n v fs)
 else if v <= rv then (rv,tag,es,[],0)
 else if 256 < ((mrg es fs).1.length : Int) then (0,0,[],[],2)
 else (v,tag,(mrg es fs).1,(mrg es fs).2,0)
theorem mrg_take (es fs : List Ev) (k : Nat) (e : Ev) (h : fs[k]? = some e) : mrg es (fs.take (k + 1)) = stepM (mrg es (fs.take k)) e:=by
 obtain ⟨h1,h2⟩:=xo.1 h;unfold mrg;rw [List.take_succ_eq_append_getElem h1,List.foldl_append,h2];rfl
theorem mrg_all (es fs : List Ev) : mrg es (fs.take fs.length) = mrg es fs:=by rw [List.take_length]
theorem ahead_T {ts : List (Ev × Value × Value)} {t : Ev × Value × Value} {i : Nat} (h1 : ∀ k,k < i -> ahead (ts.map (·.1)) t.1.uid k) : AheadT t ts i:=by
 intro j s hj hs;obtain ⟨e,he,hl⟩:=h1 j hj;rw [xx,hs] at he;cases he;exact (cmpU_less _ _).1 hl
theorem place_none {ts : List (Ev × Value × Value)} {t : Ev × Value × Value} {i : Nat} (hi : i <= ts.length) (h1 : ∀ k,k < i -> ahead (ts.map (·.1)) t.1.uid k) (h2 : ∀ k,i <= k -> ¬ ahead (ts.map (·.1)) t.1.uid k)
  (hf : ¬ ∃ e,(ts.map (·.1))[i]? = some e /\ cmpU e.uid t.1.uid = 0) : putT t ts = ts.take i ++ t :: ts.drop i:=by
 rcases Nat.lt_or_eq_of_le hi with k | k
 ·have hs : ts[i]? = some ts[i]:=xm k;have hm : (ts.map (·.1))[i]? = some ts[i].1:=by rw [xx,hs];rfl
  refine putT_new t ts i _ (ahead_T h1) hs ?_ (fun he => hf ⟨_,hm,(cmpU_same _ _).2 he⟩);rw [<- Bool.not_eq_true];exact fun hl => h2 i (xn _) ⟨_,hm,(cmpU_less _ _).2 hl⟩
 ·subst k;rw [putT_end t ts (ahead_T h1),List.take_length,List.drop_length]
theorem place_some {ts : List (Ev × Value × Value)} {t s : Ev × Value × Value} {i : Nat} (h1 : ∀ k,k < i -> ahead (ts.map (·.1)) t.1.uid k) (hs : ts[i]? = some s) (hc : cmpU s.1.uid t.1.uid = 0) : putT t ts = ts.set i t:=by
 have he:=(cmpU_same _ _).1 hc;rw [putT_same t ts i s (ahead_T h1) hs (by rw [he];exact lessU_irrefl _) he];exact (List.set_eq_take_append_cons_drop ..).symm ▸ (by rw [if_pos (xo.1 hs).1])
theorem stepM_none {out : List Ev} {ns : List Nt} {e : Ev} (h : findFrom e.uid out 0 = -1) : stepM (out,ns) e = (putE e out,noteN (toldV true e.canc) e ns):=by
 unfold stepM;rw [if_pos (by show findFrom e.uid out 0 < 0;rw [h];decide)]
theorem stepM_some {out : List Ev} {ns : List Nt} {e o : Ev} {i : Nat} (h : findFrom e.uid out 0 = i) (ho : out[i]? = some o) : stepM (out,ns) e = if o.seq < e.seq then (putE e out,noteN (toldV o.canc e.canc) e ns) else (out,ns):=by
 unfold stepM;rw [if_neg (by show ¬ findFrom e.uid out 0 < 0;rw [h];omega)];show (match out[(findFrom e.uid out 0).toNat]? with | none => (out,ns) | some o => if o.seq < e.seq then (putE e out,noteN (toldV o.canc e.canc) e ns) else (out,ns)) = _
 rw [h,Int.toNat_natCast,ho]
theorem evsV_each (v : Int) : ∀ (es : List Ev) (p : Option ByteArray),evsV v p es = 0 -> ∀ e ∈ es,rightB e.uid.data.toList = true /\ checkV e v = 0
 | [],_,_,_,he => by cases he
 | s :: r,p,h,e,he => by
  obtain ⟨h1,h2,h3,h4⟩:=(evsV_cons v p s r).1 h;rcases List.mem_cons.1 he with rfl | he
  ·exact ⟨h1,h3⟩
  ·exact evsV_each v r _ h4 e he
theorem stepM_valid {v : Int} {s : List Ev × List Nt} {e : Ev} (hr : rightB e.uid.data.toList = true) (hc : checkV e v = 0) (h : evsV v none s.1 = 0) : evsV v none (stepM s e).1 = 0:=by
 unfold stepM;split
 ·exact evsV_put v e hr hc s.1 none rfl h
 ·split
  ·exact h
  ·split
   ·exact evsV_put v e hr hc s.1 none rfl h
   ·exact h
theorem mrg_valid {v : Int} : ∀ (fs : List Ev) (s : List Ev × List Nt),(∀ e ∈ fs,rightB e.uid.data.toList = true /\ checkV e v = 0) -> evsV v none s.1 = 0 -> evsV v none (fs.foldl stepM s).1 = 0
 | [],_,_,h => h
 | e :: r,s,hf,h => by
  rw [List.foldl_cons];exact mrg_valid r _ (fun a ha => hf a (xw _ ha)) (stepM_valid (hf e (xu ..)).1 (hf e (xu ..)).2 h)
theorem mrg_ok {rv v : Int} {es fs : List Ev} (hv : rv <= v) (he : evsV rv none es = 0) (hf : evsV v none fs = 0) (k : Nat) : evsV v none (mrg es (fs.take k)).1 = 0 :=
 mrg_valid (fs.take k) (es,[]) (fun e h => evsV_each v fs none hf e (List.mem_of_mem_take h)) (evsV_mono hv es none he)
theorem putE_len (e : Ev) : ∀ es : List Ev,(putE e es).length <= es.length + 1
 | [] => xn _
 | s :: r => by
  unfold putE;split
  ·simpa using putE_len e r
  ·split <;> simp
theorem stepM_len (s : List Ev × List Nt) (e : Ev) : (stepM s e).1.length <= s.1.length + 1 /\ (stepM s e).2.length <= s.2.length + 1:=by
 have hn : ∀ c,(noteN c e s.2).length <= s.2.length + 1:=fun c => by unfold noteN;split <;> simp
 unfold stepM;split
 ·exact ⟨putE_len e s.1,hn _⟩
 ·split
  ·omega
  ·split
   ·exact ⟨putE_len e s.1,hn _⟩
   ·omega
theorem mrg_len (es fs : List Ev) : ∀ k,k <= fs.length -> (mrg es (fs.take k)).1.length <= es.length + k /\ (mrg es (fs.take k)).2.length <= k
 | 0,_ => by show es.length <= es.length + 0 /\ 0 <= 0;omega
 | k + 1,h => by
  have ih:=mrg_len es fs k (by omega);rw [mrg_take es fs k _ (xm (show k < fs.length by omega))];have:=stepM_len (mrg es (fs.take k)) fs[k];omega
theorem rdOk_iff (v : Int) (es : List Ev) : rdOk v es = true ↔ 0 <= v /\ v <= 64 /\ es.length <= 256 /\ evsV v none es = 0:=by
 unfold rdOk;simp only [xy,Bool.not_eq_true',decide_eq_false_iff_not,decide_eq_true_eq];omega
theorem feedV_ok {n : ByteArray} {v : Int} {es : List Ev} (h : feedV n v es = 0) : 0 <= v /\ v <= 64 /\ es.length <= 256 /\ evsV v none es = 0:=by
 unfold feedV at h;split at h
 ·cases h
 ·split at h
  ·cases h
  ·split at h
   ·cases h
   ·exact ⟨by omega,by omega,by omega,h⟩
end Go.Proofs.YtcomifbfldoeiaaGreatDoor
