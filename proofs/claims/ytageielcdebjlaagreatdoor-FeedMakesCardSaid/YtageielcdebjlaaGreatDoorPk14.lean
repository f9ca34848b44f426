/- changes.Valid and the reference's: sessions by themselves and in pairs: plain functions and contracts. A published timetable's error: plain functions. No program in sight. The least week of a set: math/bits.TrailingZeros, the reference's low. -/
import Derived.Test.YtageielcdebjlaaGreatDoorPk13
import Derived.Laws.StructEq
import Derived.Test.YtageielcdebjlaaGreatDoorPk8
import Derived.Shelf.Spec.TrailingZeros
set_option maxRecDepth 100000
set_option maxHeartbeats 40000000
namespace Go.Proofs.YtageielcdebjlaaGreatDoor
open Go.RowKit
def sesE (s : Ses) (n : Int) : Int:=if Tt.code s.cls.data.toList = false then 10 else if (Tt.soundB s.tim && Tt.weeksB s.tim.weeks n) = false then 14 else if roomB s.room = false then 10 else 0
theorem sesE_code {s : Ses} {n : Int} (h : Tt.code s.cls.data.toList = false) : sesE s n = 10:=if_pos h
theorem sesE_time {s : Ses} {n : Int} (h : Tt.code s.cls.data.toList = true) (h2 : (Tt.soundB s.tim && Tt.weeksB s.tim.weeks n) = false) : sesE s n = 14:=(if_neg (by rw [h];decide)).trans (if_pos h2)
theorem sesE_room {s : Ses} {n : Int} (h : Tt.code s.cls.data.toList = true) (h2 : (Tt.soundB s.tim && Tt.weeksB s.tim.weeks n) = true) (h3 : roomB s.room = false) : sesE s n = 10:=(if_neg (by rw [h];decide)).trans ((if_neg (by rw [h2];decide)).trans (if_pos h3))
theorem sesE_ok {s : Ses} {n : Int} (h : Tt.code s.cls.data.toList = true) (h2 : (Tt.soundB s.tim && Tt.weeksB s.tim.weeks n) = true) (h3 : roomB s.room = true) : sesE s n = 0:=(if_neg (by rw [h];decide)).trans ((if_neg (by rw [h2];decide)).trans (if_neg (by rw [h3];decide)))
def wk2 (a b : Ses) : Bool:=bits .and .i64 a.tim.weeks b.tim.weeks != 0
def meetB (a b : Ses) : Bool:=decide (a.cls = b.cls) && wk2 a b
def likeB (a b : Ses) : Bool:=decide (a.cls = b.cls) && (decide (a.tim.day = b.tim.day) && (decide (a.tim.start = b.tim.start) && (decide (a.tim.len = b.tim.len) && decide (a.room = b.room))))
theorem ne_bytes {a b : ByteArray} (h : ¬ a = b) : (a.toList == b.toList) = false:=by
 rw [beq_eq_false_iff_ne];intro e;rw [Lib.toList_data,Lib.toList_data] at e;exact h (ByteArray.ext (Array.toList_inj.mp e))
theorem dec_bytes (a b : ByteArray) : (a.toList == b.toList) = decide (a = b):=by
 by_cases h : a = b
 ·rw [h];simp
 ·rw [ne_bytes h,decide_eq_false h]
theorem check194 (s : Ses) (n : Int) (w : World) : Calls Tryz.prog 194 #[sesVal s,.int .i64 n] w fun e w' => e = .returned (.int .i64 (sesE s n)) /\ Below w.heap.size w w':=by
 obtain ⟨X,hX⟩ : ∃ x,x = w.heap.size:=⟨_,rfl⟩
 obtain ⟨w0,hw0⟩ : ∃ x,x = w.alloc (.cells #[.string s.cls,.int .i64 s.tim.weeks,.int .i64 s.tim.day,.int .i64 s.tim.start,.int .i64 s.tim.len,.string s.room] 107):=⟨_,rfl⟩
 have HB0:=Lh (show Blk X #[.string s.cls,.int .i64 s.tim.weeks,.int .i64 s.tim.day,.int .i64 s.tim.start,.int .i64 s.tim.len,.string s.room] 107 w0 from by rw [hw0,hX];exact Blk.new w _ _);have HL0:=Lh (show Below w.heap.size w w0 from by rw [hw0];exact below_box w _);obtain ⟨A,hA⟩ : ∃ A,Tt.code s.cls.data.toList = A:=⟨_,rfl⟩
 obtain ⟨S,hS⟩ : ∃ S,Tt.soundB s.tim = S:=⟨_,rfl⟩
 obtain ⟨W,hW⟩ : ∃ W,Tt.weeksB s.tim.weeks n = W:=⟨_,rfl⟩
 obtain ⟨R,hR⟩ : ∃ R,Tt.code s.room.data.toList = R:=⟨_,rfl⟩
 have HA:=Lh hA;have HS:=Lh hS;have HW:=Lh hW;have HR:=Lh hR;clear hA hS hW hR;have H1:=Lh (code_any s.cls w0);rw [HA.out] at H1;have H2:=Lh (sound204 s.tim w0);rw [HS.out] at H2;unfold timVal at H2;unfold sesVal sesCells;have x0 : w0.cell? ⟨X,0,none⟩ = some (.string s.cls):=HB0.out.cell 0;have x1 : w0.cell? ⟨X,1,none⟩ = some (.int .i64 s.tim.weeks):=HB0.out.cell 1;have x2 : w0.cell? ⟨X,2,none⟩ = some (.int .i64 s.tim.day):=HB0.out.cell 2;have x3 : w0.cell? ⟨X,3,none⟩ = some (.int .i64 s.tim.start):=HB0.out.cell 3;have x4 : w0.cell? ⟨X,4,none⟩ = some (.int .i64 s.tim.len):=HB0.out.cell 4;have x5 : w0.cell? ⟨X,5,none⟩ = some (.string s.room):=HB0.out.cell 5;go_enter Tryz.func194,Tryz.ntmps194;go_upto_region 1 with (fail);rw [<- hw0,<- hX];clear hw0 hX;go_wp2_with fail;refine H1.out.mono ?_;clear H1;rintro e w1 ⟨rfl,hx⟩;rw [hx];clear hx w1;cases A
 ·go_wp2_with fail;go_ret;exact ⟨ret_int (sesE_code HA.out).symm,HL0.out⟩
 go_wp2_with fail;refine H2.out.mono ?_;clear H2;rintro e w2 ⟨rfl,hb⟩;have HL2:=Lh (HL0.out.trans (hb.mono HL0.out.size));have HB2:=Lh (HB0.out.below hb HB0.out.lt);clear hb x0 x1 x2 x3 x4 x5 HB0 HL0;cases S
 ·go_wp2_with fail;go_ret;exact ⟨ret_int (sesE_time HA.out (by rw [HS.out];rfl)).symm,HL2.out⟩
 have x0 : w2.cell? ⟨X,0,none⟩ = some (.string s.cls):=HB2.out.cell 0;have x1 : w2.cell? ⟨X,1,none⟩ = some (.int .i64 s.tim.weeks):=HB2.out.cell 1;have x2 : w2.cell? ⟨X,2,none⟩ = some (.int .i64 s.tim.day):=HB2.out.cell 2;have x3 : w2.cell? ⟨X,3,none⟩ = some (.int .i64 s.tim.start):=HB2.out.cell 3;have x4 : w2.cell? ⟨X,4,none⟩ = some (.int .i64 s.tim.len):=HB2.out.cell 4;have x5 : w2.cell? ⟨X,5,none⟩ = some (.string s.room):=HB2.out.cell 5;have H3:=Lh (weeks205 s.tim.weeks n w2);rw [HW.out] at H3;go_wp2_with fail;refine H3.out.mono ?_;clear H3;rintro e w3 ⟨rfl,hx⟩;rw [hx];clear hx w3;cases W
 ·go_wp2_with fail;go_ret;exact ⟨ret_int (sesE_time HA.out (by rw [HS.out,HW.out];rfl)).symm,HL2.out⟩
 have HT:=Lh (show (Tt.soundB s.tim && Tt.weeksB s.tim.weeks n) = true from by rw [HS.out,HW.out];rfl);by_cases hr : s.room = ⟨#[]⟩
 ·have HRB:=Lh (show roomB s.room = true from by rw [hr];rfl);have hr0 : s.room.toList = []:=by rw [Lib.toList_data,hr]
  have hr1 : (!s.room.toList.isEmpty) = false:=by rw [hr0];rfl
  clear hr;go_wp2_with fail;go_ret;exact ⟨ret_int (sesE_ok HA.out HT.out HRB.out).symm,HL2.out⟩
 have hl : s.room.data.toList ≠ []:=fun h => hr (by cases hs : s.room with | mk d => rw [hs] at h;simp at h;rw [h])
 have HRB:=Lh (show roomB s.room = R from by unfold roomB;rw [HR.out,List.isEmpty_eq_false_iff.2 hl];rfl);have hr0 : (!s.room.toList.isEmpty) = true:=by rw [Lib.toList_data,List.isEmpty_eq_false_iff.2 hl];rfl
 have hr2 : s.room.toList.isEmpty = false:=by rw [Lib.toList_data,List.isEmpty_eq_false_iff.2 hl]
 clear hr hl;have H4:=Lh (code_any s.room w2);rw [HR.out] at H4;go_wp2_with fail;refine H4.out.mono ?_;clear H4;rintro e w3 ⟨rfl,hx⟩;rw [hx];clear hx w3;cases R
 ·go_wp2_with fail;go_ret;exact ⟨ret_int (sesE_room HA.out HT.out HRB.out).symm,HL2.out⟩
 ·go_wp2_with fail;go_ret;exact ⟨ret_int (sesE_ok HA.out HT.out HRB.out).symm,HL2.out⟩
theorem check225 (s : Ses) (n : Int) (w : World) : Calls Tryz.prog 225 #[sesVal s,.int .i64 n] w fun e w' => e = .returned (.int .i64 (sesE s n)) /\ Below w.heap.size w w':=by
 obtain ⟨X,hX⟩ : ∃ x,x = w.heap.size:=⟨_,rfl⟩
 obtain ⟨w0,hw0⟩ : ∃ x,x = w.alloc (.cells #[.string s.cls,.int .i64 s.tim.weeks,.int .i64 s.tim.day,.int .i64 s.tim.start,.int .i64 s.tim.len,.string s.room] 107):=⟨_,rfl⟩
 have HB0:=Lh (show Blk X #[.string s.cls,.int .i64 s.tim.weeks,.int .i64 s.tim.day,.int .i64 s.tim.start,.int .i64 s.tim.len,.string s.room] 107 w0 from by rw [hw0,hX];exact Blk.new w _ _);have HL0:=Lh (show Below w.heap.size w w0 from by rw [hw0];exact below_box w _);obtain ⟨A,hA⟩ : ∃ A,Tt.code s.cls.data.toList = A:=⟨_,rfl⟩
 obtain ⟨S,hS⟩ : ∃ S,Tt.soundB s.tim = S:=⟨_,rfl⟩
 obtain ⟨W,hW⟩ : ∃ W,Tt.weeksB s.tim.weeks n = W:=⟨_,rfl⟩
 obtain ⟨R,hR⟩ : ∃ R,Tt.code s.room.data.toList = R:=⟨_,rfl⟩
 have HA:=Lh hA;have HS:=Lh hS;have HW:=Lh hW;have HR:=Lh hR;clear hA hS hW hR;have H1:=Lh (code97 s.cls w0);rw [HA.out] at H1;have H2:=Lh (sound212 s.tim w0);rw [HS.out] at H2;unfold timVal at H2;unfold sesVal sesCells;have x0 : w0.cell? ⟨X,0,none⟩ = some (.string s.cls):=HB0.out.cell 0;have x1 : w0.cell? ⟨X,1,none⟩ = some (.int .i64 s.tim.weeks):=HB0.out.cell 1;have x2 : w0.cell? ⟨X,2,none⟩ = some (.int .i64 s.tim.day):=HB0.out.cell 2;have x3 : w0.cell? ⟨X,3,none⟩ = some (.int .i64 s.tim.start):=HB0.out.cell 3;have x4 : w0.cell? ⟨X,4,none⟩ = some (.int .i64 s.tim.len):=HB0.out.cell 4;have x5 : w0.cell? ⟨X,5,none⟩ = some (.string s.room):=HB0.out.cell 5;go_enter Tryz.func225,Tryz.ntmps225;go_upto_region 1 with (fail);rw [<- hw0,<- hX];clear hw0 hX;go_wp2_with fail;refine H1.out.mono ?_;clear H1;rintro e w1 ⟨rfl,hx⟩;rw [hx];clear hx w1;cases A
 ·go_wp2_with fail;go_ret;exact ⟨ret_int (sesE_code HA.out).symm,HL0.out⟩
 go_wp2_with fail;refine H2.out.mono ?_;clear H2;rintro e w2 ⟨rfl,hb⟩;have HL2:=Lh (HL0.out.trans (hb.mono HL0.out.size));have HB2:=Lh (HB0.out.below hb HB0.out.lt);clear hb x0 x1 x2 x3 x4 x5 HB0 HL0;cases S
 ·go_wp2_with fail;go_ret;exact ⟨ret_int (sesE_time HA.out (by rw [HS.out];rfl)).symm,HL2.out⟩
 have x0 : w2.cell? ⟨X,0,none⟩ = some (.string s.cls):=HB2.out.cell 0;have x1 : w2.cell? ⟨X,1,none⟩ = some (.int .i64 s.tim.weeks):=HB2.out.cell 1;have x2 : w2.cell? ⟨X,2,none⟩ = some (.int .i64 s.tim.day):=HB2.out.cell 2;have x3 : w2.cell? ⟨X,3,none⟩ = some (.int .i64 s.tim.start):=HB2.out.cell 3;have x4 : w2.cell? ⟨X,4,none⟩ = some (.int .i64 s.tim.len):=HB2.out.cell 4;have x5 : w2.cell? ⟨X,5,none⟩ = some (.string s.room):=HB2.out.cell 5;have H3:=Lh (weeks213 s.tim.weeks n w2);rw [HW.out] at H3;go_wp2_with fail;refine H3.out.mono ?_;clear H3;rintro e w3 ⟨rfl,hx⟩;rw [hx];clear hx w3;cases W
 ·go_wp2_with fail;go_ret;exact ⟨ret_int (sesE_time HA.out (by rw [HS.out,HW.out];rfl)).symm,HL2.out⟩
 have HT:=Lh (show (Tt.soundB s.tim && Tt.weeksB s.tim.weeks n) = true from by rw [HS.out,HW.out];rfl);by_cases hr : s.room = ⟨#[]⟩
 ·have HRB:=Lh (show roomB s.room = true from by rw [hr];rfl);have hr0 : s.room.toList = []:=by rw [Lib.toList_data,hr]
  have hr1 : (!s.room.toList.isEmpty) = false:=by rw [hr0];rfl
  clear hr;go_wp2_with fail;go_ret;exact ⟨ret_int (sesE_ok HA.out HT.out HRB.out).symm,HL2.out⟩
 have hl : s.room.data.toList ≠ []:=fun h => hr (by cases hs : s.room with | mk d => rw [hs] at h;simp at h;rw [h])
 have HRB:=Lh (show roomB s.room = R from by unfold roomB;rw [HR.out,List.isEmpty_eq_false_iff.2 hl];rfl);have hr0 : (!s.room.toList.isEmpty) = true:=by rw [Lib.toList_data,List.isEmpty_eq_false_iff.2 hl];rfl
 have hr2 : s.room.toList.isEmpty = false:=by rw [Lib.toList_data,List.isEmpty_eq_false_iff.2 hl]
 clear hr hl;have H4:=Lh (code97 s.room w2);rw [HR.out] at H4;go_wp2_with fail;refine H4.out.mono ?_;clear H4;rintro e w3 ⟨rfl,hx⟩;rw [hx];clear hx w3;cases R
 ·go_wp2_with fail;go_ret;exact ⟨ret_int (sesE_room HA.out HT.out HRB.out).symm,HL2.out⟩
 ·go_wp2_with fail;go_ret;exact ⟨ret_int (sesE_ok HA.out HT.out HRB.out).symm,HL2.out⟩
theorem meet197 (a b : Ses) (w : World) : Calls Tryz.prog 197 #[sesVal a,sesVal b] w fun e w' => e = .returned (.bool (meetB a b)) /\ Below w.heap.size w w':=by
 obtain ⟨X,hX⟩ : ∃ x,x = w.heap.size:=⟨_,rfl⟩
 obtain ⟨Y,hY⟩ : ∃ x,x = w.heap.size + 1:=⟨_,rfl⟩
 obtain ⟨w0,hw0⟩ : ∃ x,x = (w.alloc (.cells #[.string a.cls,.int .i64 a.tim.weeks,.int .i64 a.tim.day,.int .i64 a.tim.start,.int .i64 a.tim.len,.string a.room] 107)).alloc (.cells #[.string b.cls,.int .i64 b.tim.weeks,.int .i64 b.tim.day,.int .i64 b.tim.start,.int .i64 b.tim.len,.string b.room] 107):=⟨_,rfl⟩
 have HA0:=Lh (show Blk X #[.string a.cls,.int .i64 a.tim.weeks,.int .i64 a.tim.day,.int .i64 a.tim.start,.int .i64 a.tim.len,.string a.room] 107 w0 from by rw [hw0,hX];exact (Blk.new w _ _).alloc _);have HB0:=Lh (show Blk Y #[.string b.cls,.int .i64 b.tim.weeks,.int .i64 b.tim.day,.int .i64 b.tim.start,.int .i64 b.tim.len,.string b.room] 107 w0 from by rw [hw0,hY];exact Blk.new' _ _ _ (by simp));have HL0:=Lh (show Below w.heap.size w w0 from by rw [hw0];exact (below_box w _).trans ((below_box _ _).mono (by simp)));have hXl : w.heap.size <= X:=by omega
 have hYl : w.heap.size <= Y:=by omega
 have hXY : X ≠ Y:=by omega
 unfold sesVal sesCells;have x0 : w0.cell? ⟨X,0,none⟩ = some (.string a.cls):=HA0.out.cell 0;have x1 : w0.cell? ⟨X,1,none⟩ = some (.int .i64 a.tim.weeks):=HA0.out.cell 1;have x2 : w0.cell? ⟨X,2,none⟩ = some (.int .i64 a.tim.day):=HA0.out.cell 2;have x3 : w0.cell? ⟨X,3,none⟩ = some (.int .i64 a.tim.start):=HA0.out.cell 3;have x4 : w0.cell? ⟨X,4,none⟩ = some (.int .i64 a.tim.len):=HA0.out.cell 4;have x5 : w0.cell? ⟨X,5,none⟩ = some (.string a.room):=HA0.out.cell 5;have y0 : w0.cell? ⟨Y,0,none⟩ = some (.string b.cls):=HB0.out.cell 0;have y1 : w0.cell? ⟨Y,1,none⟩ = some (.int .i64 b.tim.weeks):=HB0.out.cell 1;have y2 : w0.cell? ⟨Y,2,none⟩ = some (.int .i64 b.tim.day):=HB0.out.cell 2;have y3 : w0.cell? ⟨Y,3,none⟩ = some (.int .i64 b.tim.start):=HB0.out.cell 3;have y4 : w0.cell? ⟨Y,4,none⟩ = some (.int .i64 b.tim.len):=HB0.out.cell 4;have y5 : w0.cell? ⟨Y,5,none⟩ = some (.string b.room):=HB0.out.cell 5;go_enter Tryz.func197,Tryz.ntmps197;go_upto_region 1 with (fail);rw [<- hw0,<- hY,<- hX];clear hw0;clear hX hY;by_cases hc : a.cls = b.cls
 ·have HM:=Lh (show meetB a b = wk2 a b from by unfold meetB;rw [decide_eq_true hc];rfl);have hc1 : (a.cls.toList == b.cls.toList) = true:=by rw [hc];simp
  clear hc;go_wp2_with fail;go_ret;exact ⟨ret_bool (by rw [HM.out];rfl),HL0.out⟩
 ·have HM:=Lh (show meetB a b = false from by unfold meetB;rw [decide_eq_false hc];rfl);have hc1:=ne_bytes hc;clear hc;go_wp2_with fail;go_ret;exact ⟨ret_bool (by rw [HM.out]),HL0.out⟩
theorem alike198 (a b : Ses) (w : World) : Calls Tryz.prog 198 #[sesVal a,sesVal b] w fun e w' => e = .returned (.bool (likeB a b)) /\ Below w.heap.size w w':=by
 obtain ⟨X,hX⟩ : ∃ x,x = w.heap.size:=⟨_,rfl⟩
 obtain ⟨Y,hY⟩ : ∃ x,x = w.heap.size + 1:=⟨_,rfl⟩
 obtain ⟨w0,hw0⟩ : ∃ x,x = (w.alloc (.cells #[.string a.cls,.int .i64 a.tim.weeks,.int .i64 a.tim.day,.int .i64 a.tim.start,.int .i64 a.tim.len,.string a.room] 107)).alloc (.cells #[.string b.cls,.int .i64 b.tim.weeks,.int .i64 b.tim.day,.int .i64 b.tim.start,.int .i64 b.tim.len,.string b.room] 107):=⟨_,rfl⟩
 have HA0:=Lh (show Blk X #[.string a.cls,.int .i64 a.tim.weeks,.int .i64 a.tim.day,.int .i64 a.tim.start,.int .i64 a.tim.len,.string a.room] 107 w0 from by rw [hw0,hX];exact (Blk.new w _ _).alloc _);have HB0:=Lh (show Blk Y #[.string b.cls,.int .i64 b.tim.weeks,.int .i64 b.tim.day,.int .i64 b.tim.start,.int .i64 b.tim.len,.string b.room] 107 w0 from by rw [hw0,hY];exact Blk.new' _ _ _ (by simp));have HL0:=Lh (show Below w.heap.size w w0 from by rw [hw0];exact (below_box w _).trans ((below_box _ _).mono (by simp)));have hXl : w.heap.size <= X:=by omega
 have hYl : w.heap.size <= Y:=by omega
 have hXY : X ≠ Y:=by omega
 unfold sesVal sesCells;have x0 : w0.cell? ⟨X,0,none⟩ = some (.string a.cls):=HA0.out.cell 0;have x1 : w0.cell? ⟨X,1,none⟩ = some (.int .i64 a.tim.weeks):=HA0.out.cell 1;have x2 : w0.cell? ⟨X,2,none⟩ = some (.int .i64 a.tim.day):=HA0.out.cell 2;have x3 : w0.cell? ⟨X,3,none⟩ = some (.int .i64 a.tim.start):=HA0.out.cell 3;have x4 : w0.cell? ⟨X,4,none⟩ = some (.int .i64 a.tim.len):=HA0.out.cell 4;have x5 : w0.cell? ⟨X,5,none⟩ = some (.string a.room):=HA0.out.cell 5;have y0 : w0.cell? ⟨Y,0,none⟩ = some (.string b.cls):=HB0.out.cell 0;have y1 : w0.cell? ⟨Y,1,none⟩ = some (.int .i64 b.tim.weeks):=HB0.out.cell 1;have y2 : w0.cell? ⟨Y,2,none⟩ = some (.int .i64 b.tim.day):=HB0.out.cell 2;have y3 : w0.cell? ⟨Y,3,none⟩ = some (.int .i64 b.tim.start):=HB0.out.cell 3;have y4 : w0.cell? ⟨Y,4,none⟩ = some (.int .i64 b.tim.len):=HB0.out.cell 4;have y5 : w0.cell? ⟨Y,5,none⟩ = some (.string b.room):=HB0.out.cell 5;go_enter Tryz.func198,Tryz.ntmps198;go_upto_region 1 with (fail);rw [<- hw0,<- hY,<- hX];clear hw0;clear hX hY;have f1:=HA0.out.frozen 1;have g1:=HB0.out.frozen 1;skip
 obtain ⟨w1,hw1⟩ : ∃ x,x = w0.setCell ⟨X,1,none⟩ (.int .i64 b.tim.weeks):=⟨_,rfl⟩
 go_upto_region 2 with (fail);rw [<- hw1];have HA1:=Lh (show Blk X #[.string a.cls,.int .i64 b.tim.weeks,.int .i64 a.tim.day,.int .i64 a.tim.start,.int .i64 a.tim.len,.string a.room] 107 w1 from by rw [hw1];exact HA0.out.set 1 _);have HB1:=Lh (show Blk Y #[.string b.cls,.int .i64 b.tim.weeks,.int .i64 b.tim.day,.int .i64 b.tim.start,.int .i64 b.tim.len,.string b.room] 107 w1 from by rw [hw1];exact HB0.out.set_other (Ne.symm hXY) 1 _);have HL1:=Lh (show Below w.heap.size w w1 from by rw [hw1];exact HL0.out.setCell hXl _);clear hw1 f1 g1 x0 y0 x1 y1 x2 y2 x3 y3 x4 y4 x5 y5;have x0 : w1.cell? ⟨X,0,none⟩ = some (.string a.cls):=HA1.out.cell 0;have x1 : w1.cell? ⟨X,1,none⟩ = some (.int .i64 b.tim.weeks):=HA1.out.cell 1;have x2 : w1.cell? ⟨X,2,none⟩ = some (.int .i64 a.tim.day):=HA1.out.cell 2;have x3 : w1.cell? ⟨X,3,none⟩ = some (.int .i64 a.tim.start):=HA1.out.cell 3;have x4 : w1.cell? ⟨X,4,none⟩ = some (.int .i64 a.tim.len):=HA1.out.cell 4;have x5 : w1.cell? ⟨X,5,none⟩ = some (.string a.room):=HA1.out.cell 5;have y0 : w1.cell? ⟨Y,0,none⟩ = some (.string b.cls):=HB1.out.cell 0;have y1 : w1.cell? ⟨Y,1,none⟩ = some (.int .i64 b.tim.weeks):=HB1.out.cell 1;have y2 : w1.cell? ⟨Y,2,none⟩ = some (.int .i64 b.tim.day):=HB1.out.cell 2;have y3 : w1.cell? ⟨Y,3,none⟩ = some (.int .i64 b.tim.start):=HB1.out.cell 3;have y4 : w1.cell? ⟨Y,4,none⟩ = some (.int .i64 b.tim.len):=HB1.out.cell 4;have y5 : w1.cell? ⟨Y,5,none⟩ = some (.string b.room):=HB1.out.cell 5;go_wp2_with fail
 all_goals go_ret
 all_goals refine ⟨ret_bool ?_,HL1.out⟩
 all_goals unfold likeB
 all_goals rw [<- dec_bytes,<- dec_bytes]
 all_goals simp [*]
theorem alike227 (a b : Ses) (w : World) : Calls Tryz.prog 227 #[sesVal a,sesVal b] w fun e w' => e = .returned (.bool (likeB a b)) /\ Below w.heap.size w w':=by
 obtain ⟨X,hX⟩ : ∃ x,x = w.heap.size:=⟨_,rfl⟩
 obtain ⟨Y,hY⟩ : ∃ x,x = w.heap.size + 1:=⟨_,rfl⟩
 obtain ⟨w0,hw0⟩ : ∃ x,x = (w.alloc (.cells #[.string a.cls,.int .i64 a.tim.weeks,.int .i64 a.tim.day,.int .i64 a.tim.start,.int .i64 a.tim.len,.string a.room] 107)).alloc (.cells #[.string b.cls,.int .i64 b.tim.weeks,.int .i64 b.tim.day,.int .i64 b.tim.start,.int .i64 b.tim.len,.string b.room] 107):=⟨_,rfl⟩
 have HA0:=Lh (show Blk X #[.string a.cls,.int .i64 a.tim.weeks,.int .i64 a.tim.day,.int .i64 a.tim.start,.int .i64 a.tim.len,.string a.room] 107 w0 from by rw [hw0,hX];exact (Blk.new w _ _).alloc _);have HB0:=Lh (show Blk Y #[.string b.cls,.int .i64 b.tim.weeks,.int .i64 b.tim.day,.int .i64 b.tim.start,.int .i64 b.tim.len,.string b.room] 107 w0 from by rw [hw0,hY];exact Blk.new' _ _ _ (by simp));have HL0:=Lh (show Below w.heap.size w w0 from by rw [hw0];exact (below_box w _).trans ((below_box _ _).mono (by simp)));have hXl : w.heap.size <= X:=by omega
 have hYl : w.heap.size <= Y:=by omega
 have hXY : X ≠ Y:=by omega
 unfold sesVal sesCells;have x0 : w0.cell? ⟨X,0,none⟩ = some (.string a.cls):=HA0.out.cell 0;have x1 : w0.cell? ⟨X,1,none⟩ = some (.int .i64 a.tim.weeks):=HA0.out.cell 1;have x2 : w0.cell? ⟨X,2,none⟩ = some (.int .i64 a.tim.day):=HA0.out.cell 2;have x3 : w0.cell? ⟨X,3,none⟩ = some (.int .i64 a.tim.start):=HA0.out.cell 3;have x4 : w0.cell? ⟨X,4,none⟩ = some (.int .i64 a.tim.len):=HA0.out.cell 4;have x5 : w0.cell? ⟨X,5,none⟩ = some (.string a.room):=HA0.out.cell 5;have y0 : w0.cell? ⟨Y,0,none⟩ = some (.string b.cls):=HB0.out.cell 0;have y1 : w0.cell? ⟨Y,1,none⟩ = some (.int .i64 b.tim.weeks):=HB0.out.cell 1;have y2 : w0.cell? ⟨Y,2,none⟩ = some (.int .i64 b.tim.day):=HB0.out.cell 2;have y3 : w0.cell? ⟨Y,3,none⟩ = some (.int .i64 b.tim.start):=HB0.out.cell 3;have y4 : w0.cell? ⟨Y,4,none⟩ = some (.int .i64 b.tim.len):=HB0.out.cell 4;have y5 : w0.cell? ⟨Y,5,none⟩ = some (.string b.room):=HB0.out.cell 5;go_enter Tryz.func227,Tryz.ntmps227;go_upto_region 1 with (fail);rw [<- hw0,<- hY,<- hX];clear hw0;clear hX hY;have f1:=HA0.out.frozen 1;have g1:=HB0.out.frozen 1;skip
 obtain ⟨w1,hw1⟩ : ∃ x,x = (w0.setCell ⟨X,1,none⟩ (.int .i64 0)).setCell ⟨Y,1,none⟩ (.int .i64 0):=⟨_,rfl⟩
 go_upto_region 2 with (fail);rw [<- hw1];have HA1:=Lh (show Blk X #[.string a.cls,.int .i64 0,.int .i64 a.tim.day,.int .i64 a.tim.start,.int .i64 a.tim.len,.string a.room] 107 w1 from by rw [hw1];exact (HA0.out.set 1 _).set_other hXY 1 _);have HB1:=Lh (show Blk Y #[.string b.cls,.int .i64 0,.int .i64 b.tim.day,.int .i64 b.tim.start,.int .i64 b.tim.len,.string b.room] 107 w1 from by rw [hw1];exact (HB0.out.set_other (Ne.symm hXY) 1 _).set 1 _);have HL1:=Lh (show Below w.heap.size w w1 from by rw [hw1];exact (HL0.out.setCell hXl _).setCell hYl _);clear hw1 f1 g1 x0 y0 x1 y1 x2 y2 x3 y3 x4 y4 x5 y5;have x0 : w1.cell? ⟨X,0,none⟩ = some (.string a.cls):=HA1.out.cell 0;have x1 : w1.cell? ⟨X,1,none⟩ = some (.int .i64 0):=HA1.out.cell 1;have x2 : w1.cell? ⟨X,2,none⟩ = some (.int .i64 a.tim.day):=HA1.out.cell 2;have x3 : w1.cell? ⟨X,3,none⟩ = some (.int .i64 a.tim.start):=HA1.out.cell 3;have x4 : w1.cell? ⟨X,4,none⟩ = some (.int .i64 a.tim.len):=HA1.out.cell 4;have x5 : w1.cell? ⟨X,5,none⟩ = some (.string a.room):=HA1.out.cell 5;have y0 : w1.cell? ⟨Y,0,none⟩ = some (.string b.cls):=HB1.out.cell 0;have y1 : w1.cell? ⟨Y,1,none⟩ = some (.int .i64 0):=HB1.out.cell 1;have y2 : w1.cell? ⟨Y,2,none⟩ = some (.int .i64 b.tim.day):=HB1.out.cell 2;have y3 : w1.cell? ⟨Y,3,none⟩ = some (.int .i64 b.tim.start):=HB1.out.cell 3;have y4 : w1.cell? ⟨Y,4,none⟩ = some (.int .i64 b.tim.len):=HB1.out.cell 4;have y5 : w1.cell? ⟨Y,5,none⟩ = some (.string b.room):=HB1.out.cell 5;go_wp2_with fail
 all_goals go_ret
 all_goals refine ⟨ret_bool ?_,HL1.out⟩
 all_goals unfold likeB
 all_goals rw [<- dec_bytes,<- dec_bytes]
 all_goals simp [*]
def lowW (s : Ses) : Int:=(Tt.lowB s.tim.weeks 20 0 : Nat) + 1
def befB (a b : Ses) : Bool:=lessU a.cls b.cls || (decide (a.cls = b.cls) && decide (lowW a < lowW b))
def sesL (n : Int) : List Ses -> Int
 | [] => 0
 | s :: r => if sesE s n ≠ 0 then sesE s n else sesL n r
def ordB : List Ses -> Bool
 | a :: b :: r => befB a b && ordB (b :: r)
 | _ => true
def twiceB (a b : Ses) : Bool:=meetB a b || likeB a b
def dupB : List Ses -> List Ses -> Bool
 | _,[] => false
 | pre,s :: r => pre.any (twiceB s) || dupB (pre ++ [s]) r
def chgV (l : List Ses) (n : Int) : Int :=
 if n < 1 ∨ 20 < n then 3 else if 96 < (l.length : Int) then 2 else if sesL n l ≠ 0 then sesL n l else if ordB l = false then 63 else if dupB [] l = true then 11 else 0
theorem sesL_step (n : Int) (l : List Ses) (k : Nat) (s : Ses) (h : l[k]? = some s) : sesL n (l.drop k) = if sesE s n ≠ 0 then sesE s n else sesL n (l.drop (k + 1)):=by
 obtain ⟨h1,h2⟩:=List.getElem?_eq_some_iff.1 h;rw [List.drop_eq_getElem_cons h1,h2];rfl
theorem sesL_each (n : Int) : ∀ (l : List Ses),sesL n l = 0 -> ∀ s ∈ l,sesE s n = 0
 | [],_,s,hs => by cases hs
 | a :: r,h,s,hs => by
  rw [sesL] at h;split at h
  ·rename_i g;exact absurd h g
  ·rename_i g
   rcases List.mem_cons.1 hs with rfl | hs
   ·simpa using g
   ·exact sesL_each n r h s hs
theorem ordB_step (l : List Ses) (k : Nat) (a b : Ses) (h : l[k]? = some a) (h2 : l[k + 1]? = some b) : ordB (l.drop k) = (befB a b && ordB (l.drop (k + 1))):=by
 obtain ⟨g1,g2⟩:=List.getElem?_eq_some_iff.1 h;obtain ⟨g3,g4⟩:=List.getElem?_eq_some_iff.1 h2;rw [List.drop_eq_getElem_cons g1,g2,List.drop_eq_getElem_cons g3,g4];rfl
theorem ordB_end (l : List Ses) (k : Nat) (h : l.length <= k + 1) : ordB (l.drop k) = true:=by
 rcases Nat.lt_or_ge k l.length with h1 | h1
 ·rw [List.drop_eq_getElem_cons h1,List.drop_eq_nil_of_le h];rfl
 ·rw [List.drop_eq_nil_of_le h1];rfl
theorem dupB_step (l : List Ses) (k : Nat) (s : Ses) (h : l[k]? = some s) : dupB (l.take k) (l.drop k) = ((l.take k).any (twiceB s) || dupB (l.take (k + 1)) (l.drop (k + 1))):=by
 obtain ⟨g1,g2⟩:=List.getElem?_eq_some_iff.1 h;rw [List.drop_eq_getElem_cons g1,g2,dupB,List.take_add_one,h];rfl
theorem any_step (p : Ses -> Bool) (l : List Ses) (i k : Nat) (s : Ses) (h : l[k]? = some s) (hk : k < i) : ((l.take i).drop k).any p = (p s || ((l.take i).drop (k + 1)).any p):=by
 obtain ⟨g1,g2⟩:=List.getElem?_eq_some_iff.1 h;have hl : k < (l.take i).length:=by rw [List.length_take];omega
 rw [List.drop_eq_getElem_cons hl,List.getElem_take,g2,List.any_cons]
theorem sesE_low {s : Ses} {n : Int} (h : sesE s n = 0) : Tt.weeksB s.tim.weeks 20 = true:=by
 unfold sesE at h;split at h
 ·cases h
 ·split at h
  ·cases h
  ·rename_i g
   have g2 : (Tt.soundB s.tim && Tt.weeksB s.tim.weeks n) = true:=by simpa using g
   rw [Bool.and_eq_true] at g2;exact ((Tt.soundB_iff _).1 g2.1).1
end Go.Proofs.YtageielcdebjlaaGreatDoor
namespace Tt
theorem low_ctz (W : Nat) : ∀ (n k f : Nat),n <= f -> 0 < W / 2 ^ k -> W / 2 ^ k < 2 ^ n -> lowB (W : Int) n k = k + Go.Lib.ctzFrom f (W / 2 ^ k)
 | 0,k,f,_,h0,h1 => by rw [Nat.pow_zero] at h1;omega
 | n + 1,k,0,hf,_,_ => by omega
 | n + 1,k,f + 1,hf,h0,h1 => by
  have hb : bit (W : Int) (k : Nat) = decide (W / 2 ^ k % 2 = 1):=by
   unfold bit;rw [Int.toNat_natCast];have e : ((W : Int) / 2 ^ k % 2 = 1) ↔ (W / 2 ^ k % 2 = 1):=by
    have e1 : (W : Int) / 2 ^ k = ((W / 2 ^ k : Nat) : Int):=by
     rw [Int.natCast_ediv,Int.natCast_pow];rfl
    rw [e1];omega
   simp only [e]
  rw [lowB,Go.Lib.ctzFrom,hb];by_cases hc : W / 2 ^ k % 2 = 1
  ·rw [if_pos (decide_eq_true hc),if_pos hc];omega
  ·rw [if_neg (by simpa using hc),if_neg hc];have e2 : W / 2 ^ k / 2 = W / 2 ^ (k + 1):=by rw [Nat.div_div_eq_div_mul,Nat.pow_succ]
   have hp : 2 ^ (n + 1) = 2 * 2 ^ n:=by rw [Nat.pow_succ];omega
   rw [e2,low_ctz W n (k + 1) f (by omega) (by rw [<- e2];omega) (by rw [<- e2];omega)];omega
theorem low_of_ctz {w : Int} (h : weeksB w 20 = true) : Go.Lib.ctz 64 w.toNat = lowB w 20 0:=by
 obtain ⟨h0,h1⟩:=weeks_bd h;have e : (w.toNat : Int) = w:=Int.toNat_of_nonneg (by omega);unfold Go.Lib.ctz;rw [if_neg (by omega)];have:=low_ctz w.toNat 20 0 64 (by omega) (by simp;omega) (by simp;omega);rw [e] at this;rw [this];simp
end Tt
namespace Go.Proofs.YtageielcdebjlaaGreatDoor
open Go.RowKit
def Tz (w : World) : Prop:=TabAt 5 Lib.deBruijn64tab w
theorem Tz.below {w w' : World} (h : Tz w) (h6 : 6 < w.heap.size) (hb : Below w.heap.size w w') : Tz w':=fun j hj => (hb.cell (p:=⟨5,j,none⟩) (by show 5 < _;omega)).trans (h j hj)
theorem tz_core (x k idx : Nat) (w : World) (hx0 : ((x : Int) == 0) = false)
  (key : IntKind.u64.wrap (bits BinOp.and IntKind.u64 (x : Int) (IntKind.u64.wrap (-(x : Int))) * 285870213051353865) / 288230376151711744 = (idx : Int))
  (hi : idx < 64) (hk : k < 64) (hcell : w.cell? ⟨5,idx,none⟩ = some (.int .u8 k)) :
  Calls Tryz.prog 322 #[.int .u64 x] w fun e w' => e = .returned (.int .i64 k) /\ w' = w:=by
 go_enter Tryz.func322,Tryz.ntmps322;go_wp2_with (simp only [key]);go_ret;exact ⟨rfl,rfl⟩
theorem tz322 (x : Nat) (w : World) (hx : x < 18446744073709551616) (hx0 : x ≠ 0) (hT : Tz w) : Calls Tryz.prog 322 #[.int .u64 x] w fun e w' => e = .returned (.int .i64 (Lib.ctz 64 x)) /\ w' = w:=by
 obtain ⟨hlow,hk⟩:=Lib.lowest_bit 64 x hx0 hx;obtain ⟨hi,htab⟩:=Lib.deBruijn64_at _ hk;have hcell:=hT _ hi;rw [htab] at hcell;exact tz_core x _ _ w (by simp;omega) (tz64_key x _ hx hx0 hlow) hi hk hcell
theorem tz269 (x : Nat) (w : World) (hx : x < 18446744073709551616) (hx0 : x ≠ 0) (hT : Tz w) : Calls Tryz.prog 269 #[.int .u64 x] w fun e w' => e = .returned (.int .i64 (Lib.ctz 64 x)) /\ w' = w:=by
 have H:=Lh (tz322 x w hx hx0 hT);clear hT;go_enter Tryz.func269,Tryz.ntmps269;go_wp2_with fail;refine H.out.mono ?_;rintro e w1 ⟨rfl,hw⟩;rw [hw];clear hw w1;go_wp2_with fail;go_ret;exact ⟨rfl,rfl⟩
def cmpS (a b : ByteArray) : Int:=if Op.bytesLess a.toList b.toList = true then -1 else if (a.toList == b.toList) = true then 0 else 1
theorem cmp267 (a b : ByteArray) (w : World) : Calls Tryz.prog 267 #[.string a,.string b] w fun e w' => e = .returned (.int .i64 (cmpS a b)) /\ w' = w:=by
 have N : ∀ (s : ByteArray),Calls Tryz.prog 319 #[.string s] w fun e w' => e = .returned (.bool false) /\ w' = w:=by
  intro s;go_enter Tryz.func319,Tryz.ntmps319;go_wp2_with fail;go_ret;exact ⟨by simp,rfl⟩
 have HN:=Lh N;clear N;obtain ⟨x,hx⟩ : ∃ x,Op.bytesLess a.toList b.toList = x:=⟨_,rfl⟩
 obtain ⟨y,hy⟩ : ∃ y,(a.toList == b.toList) = y:=⟨_,rfl⟩
 have HR:=Lh (show cmpS a b = if x = true then -1 else if y = true then 0 else 1 from by unfold cmpS;rw [hx,hy]);go_enter Tryz.func267,Tryz.ntmps267;go_wp2_with fail;refine (HN.out a).mono ?_;rintro e w1 ⟨rfl,hw⟩;rw [hw];clear hw w1;go_wp2_with fail;refine (HN.out b).mono ?_;rintro e w1 ⟨rfl,hw⟩;rw [hw];clear hw w1;cases x
 ·cases y
  ·go_wp2_with fail;go_ret;exact ⟨by rw [HR.out];rfl,rfl⟩
  ·go_wp2_with fail;go_ret;exact ⟨by rw [HR.out];rfl,rfl⟩
 ·go_wp2_with fail;go_ret;exact ⟨by rw [HR.out];rfl,rfl⟩
theorem or266 (g : Nat) (x y : Int) (w : World) (h : Blk g #[.int .i64 x,.int .i64 y] 3 w) : Calls Tryz.prog 266 #[.slice (some ⟨g,0,none⟩) 2 2] w fun e w' => e = .returned (.int .i64 (if x ≠ 0 then x else y)) /\ w' = w:=by
 have c0 : w.cell? ⟨g,0,none⟩ = some (.int .i64 x):=h.cell 0;have c1 : w.cell? ⟨g,1,none⟩ = some (.int .i64 y):=h.cell 1;clear h;by_cases hx : x = 0
 ·subst hx;by_cases hy : y = 0
  ·subst hy;go_enter Tryz.func266,Tryz.ntmps266;go_wp2_with fail;go_loop [5,8] (fun _ iv => ∃ k : Nat,iv = .int .i64 k /\ k <= 2) (fun _ iv => 2 - (intOf iv).toNat)
   case atStart => exact ⟨0,rfl,by omega⟩
   case round =>
    obtain ⟨k,rfl,hk⟩:=hrel;rcases (show k = 0 ∨ k = 1 ∨ k = 2 by omega) with rfl | rfl | rfl
    ·go_wp2_with fail;go_round
     case rel => exact ⟨1,by go_num,by omega⟩
     case measure => simp [intOf]
    ·go_wp2_with fail;go_round
     case rel => exact ⟨2,by go_num,by omega⟩
     case measure => simp [intOf]
    ·go_wp2_with fail;go_ret;exact ⟨rfl,rfl⟩
  ·have hb : (y != 0) = true:=by simpa using hy
   have hb2 : (y == 0) = false:=by simpa using hy
   have HE:=Lh (show (if (0 : Int) ≠ 0 then (0 : Int) else y) = y from if_neg (by simp));go_enter Tryz.func266,Tryz.ntmps266;go_wp2_with fail;go_loop [5,8] (fun _ iv => ∃ k : Nat,iv = .int .i64 k /\ k <= 1) (fun _ iv => 2 - (intOf iv).toNat)
   case atStart => exact ⟨0,rfl,by omega⟩
   case round =>
    obtain ⟨k,rfl,hk⟩:=hrel;rcases (show k = 0 ∨ k = 1 by omega) with rfl | rfl
    ·go_wp2_with fail;go_round
     case rel => exact ⟨1,by go_num,by omega⟩
     case measure => simp [intOf]
    ·go_wp2_with fail;go_ret;exact ⟨by first | rfl | rw [HE.out],rfl⟩
 ·have hb : (x != 0) = true:=by simpa using hx
  have hb2 : (x == 0) = false:=by simpa using hx
  have HE:=Lh (show (if x ≠ 0 then x else y) = x from if_pos hx);go_enter Tryz.func266,Tryz.ntmps266;go_wp2_with fail;go_loop [5,8] (fun _ iv => iv = .int .i64 0) (fun _ iv => 2 - (intOf iv).toNat)
  case atStart => rfl
  case round =>
   subst hrel;go_wp2_with fail;go_ret;exact ⟨by first | (rw [HE.out];done) | (rw [HE.out];rfl) | rfl,rfl⟩
end Go.Proofs.YtageielcdebjlaaGreatDoor
