/- A published timetable's error: plain functions. No program in sight. The least week of a set: math/bits.TrailingZeros, the reference's low. The order of sessions in a published timetable: contracts of the program's and the reference's. -/
import Derived.Test.YtageielcdebjlaaGreatDoorPk8
import Derived.Test.YtageielcdebjlaaGreatDoorPk5
import Derived.Shelf.Spec.TrailingZeros
import Derived.Test.YtageielcdebjlaaGreatDoorPk6
import Derived.Test.YtageielcdebjlaaGreatDoorPk4
set_option maxRecDepth 100000
set_option maxHeartbeats 40000000
namespace Go.Proofs.YtageielcdebjlaaGreatDoor
open Go.RowKit
def lowW (s : Ses) : Int:=(Tt.lowB s.tim.weeks 20 0 : Nat) + 1
def befB (a b : Ses) : Bool:=lessU a.cls b.cls || (decide (a.cls = b.cls) && decide (lowW a < lowW b))
def sesL (n : Int) : List Ses -> Int
 | [] => 0
 | s :: r => if sesE s n ≠ 0 then sesE s n else sesL n r
def ordB : List Ses -> Bool
 | a :: b :: r => befB a b && ordB (b :: r)
 | _ => true
def twiceB (a b : Ses) : Bool:=meetB a b || likeB a b
def dupB : List Ses -> List Ses -> Bool
 | _,[] => false
 | pre,s :: r => pre.any (twiceB s) || dupB (pre ++ [s]) r
def chgV (l : List Ses) (n : Int) : Int :=
 if n < 1 ∨ 20 < n then 3 else if 96 < (l.length : Int) then 2 else if sesL n l ≠ 0 then sesL n l else if ordB l = false then 63 else if dupB [] l = true then 11 else 0
theorem sesL_step (n : Int) (l : List Ses) (k : Nat) (s : Ses) (h : l[k]? = some s) : sesL n (l.drop k) = if sesE s n ≠ 0 then sesE s n else sesL n (l.drop (k + 1)):=by
 obtain ⟨h1,h2⟩:=List.getElem?_eq_some_iff.1 h;rw [List.drop_eq_getElem_cons h1,h2];rfl
theorem sesL_each (n : Int) : ∀ (l : List Ses),sesL n l = 0 -> ∀ s ∈ l,sesE s n = 0
 | [],_,s,hs => by cases hs
 | a :: r,h,s,hs => by
  rw [sesL] at h;split at h
  ·rename_i g;exact absurd h g
  ·rename_i g
   rcases List.mem_cons.1 hs with rfl | hs
   ·simpa using g
   ·exact sesL_each n r h s hs
theorem ordB_step (l : List Ses) (k : Nat) (a b : Ses) (h : l[k]? = some a) (h2 : l[k + 1]? = some b) : ordB (l.drop k) = (befB a b && ordB (l.drop (k + 1))):=by
 obtain ⟨g1,g2⟩:=List.getElem?_eq_some_iff.1 h;obtain ⟨g3,g4⟩:=List.getElem?_eq_some_iff.1 h2;rw [List.drop_eq_getElem_cons g1,g2,List.drop_eq_getElem_cons g3,g4];rfl
theorem ordB_end (l : List Ses) (k : Nat) (h : l.length <= k + 1) : ordB (l.drop k) = true:=by
 rcases Nat.lt_or_ge k l.length with h1 | h1
 ·rw [List.drop_eq_getElem_cons h1,List.drop_eq_nil_of_le h];rfl
 ·rw [List.drop_eq_nil_of_le h1];rfl
theorem dupB_step (l : List Ses) (k : Nat) (s : Ses) (h : l[k]? = some s) : dupB (l.take k) (l.drop k) = ((l.take k).any (twiceB s) || dupB (l.take (k + 1)) (l.drop (k + 1))):=by
 obtain ⟨g1,g2⟩:=List.getElem?_eq_some_iff.1 h;rw [List.drop_eq_getElem_cons g1,g2,dupB,List.take_add_one,h];rfl
theorem any_step (p : Ses -> Bool) (l : List Ses) (i k : Nat) (s : Ses) (h : l[k]? = some s) (hk : k < i) : ((l.take i).drop k).any p = (p s || ((l.take i).drop (k + 1)).any p):=by
 obtain ⟨g1,g2⟩:=List.getElem?_eq_some_iff.1 h;have hl : k < (l.take i).length:=by rw [List.length_take];omega
 rw [List.drop_eq_getElem_cons hl,List.getElem_take,g2,List.any_cons]
theorem sesE_low {s : Ses} {n : Int} (h : sesE s n = 0) : Tt.weeksB s.tim.weeks 20 = true:=by
 unfold sesE at h;split at h
 ·cases h
 ·split at h
  ·cases h
  ·rename_i g
   have g2 : (Tt.soundB s.tim && Tt.weeksB s.tim.weeks n) = true:=by simpa using g
   rw [Bool.and_eq_true] at g2;exact ((Tt.soundB_iff _).1 g2.1).1
end Go.Proofs.YtageielcdebjlaaGreatDoor
namespace Tt
theorem low_ctz (W : Nat) : ∀ (n k f : Nat),n <= f -> 0 < W / 2 ^ k -> W / 2 ^ k < 2 ^ n -> lowB (W : Int) n k = k + Go.Lib.ctzFrom f (W / 2 ^ k)
 | 0,k,f,_,h0,h1 => by rw [Nat.pow_zero] at h1;omega
 | n + 1,k,0,hf,_,_ => by omega
 | n + 1,k,f + 1,hf,h0,h1 => by
  have hb : bit (W : Int) (k : Nat) = decide (W / 2 ^ k % 2 = 1):=by
   unfold bit;rw [Int.toNat_natCast];have e : ((W : Int) / 2 ^ k % 2 = 1) ↔ (W / 2 ^ k % 2 = 1):=by
    have e1 : (W : Int) / 2 ^ k = ((W / 2 ^ k : Nat) : Int):=by
     rw [Int.natCast_ediv,Int.natCast_pow];rfl
    rw [e1];omega
   simp only [e]
  rw [lowB,Go.Lib.ctzFrom,hb];by_cases hc : W / 2 ^ k % 2 = 1
  ·rw [if_pos (decide_eq_true hc),if_pos hc];omega
  ·rw [if_neg (by simpa using hc),if_neg hc];have e2 : W / 2 ^ k / 2 = W / 2 ^ (k + 1):=by rw [Nat.div_div_eq_div_mul,Nat.pow_succ]
   have hp : 2 ^ (n + 1) = 2 * 2 ^ n:=by rw [Nat.pow_succ];omega
   rw [e2,low_ctz W n (k + 1) f (by omega) (by rw [<- e2];omega) (by rw [<- e2];omega)];omega
theorem low_of_ctz {w : Int} (h : weeksB w 20 = true) : Go.Lib.ctz 64 w.toNat = lowB w 20 0:=by
 obtain ⟨h0,h1⟩:=weeks_bd h;have e : (w.toNat : Int) = w:=Int.toNat_of_nonneg (by omega);unfold Go.Lib.ctz;rw [if_neg (by omega)];have:=low_ctz w.toNat 20 0 64 (by omega) (by simp;omega) (by simp;omega);rw [e] at this;rw [this];simp
end Tt
namespace Go.Proofs.YtageielcdebjlaaGreatDoor
open Go.RowKit
def Tz (w : World) : Prop:=TabAt 5 Lib.deBruijn64tab w
theorem Tz.below {w w' : World} (h : Tz w) (h6 : 6 < w.heap.size) (hb : Below w.heap.size w w') : Tz w':=fun j hj => (hb.cell (p:=⟨5,j,none⟩) (by show 5 < _;omega)).trans (h j hj)
theorem tz_core (x k idx : Nat) (w : World) (hx0 : ((x : Int) == 0) = false)
  (key : IntKind.u64.wrap (bits BinOp.and IntKind.u64 (x : Int) (IntKind.u64.wrap (-(x : Int))) * 285870213051353865) / 288230376151711744 = (idx : Int))
  (hi : idx < 64) (hk : k < 64) (hcell : w.cell? ⟨5,idx,none⟩ = some (.int .u8 k)) :
  Calls Tryz.prog 322 #[.int .u64 x] w fun e w' => e = .returned (.int .i64 k) /\ w' = w:=by
 go_enter Tryz.func322,Tryz.ntmps322;go_wp2_with (simp only [key]);go_ret;exact ⟨rfl,rfl⟩
theorem tz322 (x : Nat) (w : World) (hx : x < 18446744073709551616) (hx0 : x ≠ 0) (hT : Tz w) : Calls Tryz.prog 322 #[.int .u64 x] w fun e w' => e = .returned (.int .i64 (Lib.ctz 64 x)) /\ w' = w:=by
 obtain ⟨hlow,hk⟩:=Lib.lowest_bit 64 x hx0 hx;obtain ⟨hi,htab⟩:=Lib.deBruijn64_at _ hk;have hcell:=hT _ hi;rw [htab] at hcell;exact tz_core x _ _ w (by simp;omega) (tz64_key x _ hx hx0 hlow) hi hk hcell
theorem tz269 (x : Nat) (w : World) (hx : x < 18446744073709551616) (hx0 : x ≠ 0) (hT : Tz w) : Calls Tryz.prog 269 #[.int .u64 x] w fun e w' => e = .returned (.int .i64 (Lib.ctz 64 x)) /\ w' = w:=by
 have H:=Lh (tz322 x w hx hx0 hT);clear hT;go_enter Tryz.func269,Tryz.ntmps269;go_wp2_with fail;refine H.out.mono ?_;rintro e w1 ⟨rfl,hw⟩;rw [hw];clear hw w1;go_wp2_with fail;go_ret;exact ⟨rfl,rfl⟩
def cmpS (a b : ByteArray) : Int:=if Op.bytesLess a.toList b.toList = true then -1 else if (a.toList == b.toList) = true then 0 else 1
theorem cmp267 (a b : ByteArray) (w : World) : Calls Tryz.prog 267 #[.string a,.string b] w fun e w' => e = .returned (.int .i64 (cmpS a b)) /\ w' = w:=by
 have N : ∀ (s : ByteArray),Calls Tryz.prog 319 #[.string s] w fun e w' => e = .returned (.bool false) /\ w' = w:=by
  intro s;go_enter Tryz.func319,Tryz.ntmps319;go_wp2_with fail;go_ret;exact ⟨by simp,rfl⟩
 have HN:=Lh N;clear N;obtain ⟨x,hx⟩ : ∃ x,Op.bytesLess a.toList b.toList = x:=⟨_,rfl⟩
 obtain ⟨y,hy⟩ : ∃ y,(a.toList == b.toList) = y:=⟨_,rfl⟩
 have HR:=Lh (show cmpS a b = if x = true then -1 else if y = true then 0 else 1 from by unfold cmpS;rw [hx,hy]);go_enter Tryz.func267,Tryz.ntmps267;go_wp2_with fail;refine (HN.out a).mono ?_;rintro e w1 ⟨rfl,hw⟩;rw [hw];clear hw w1;go_wp2_with fail;refine (HN.out b).mono ?_;rintro e w1 ⟨rfl,hw⟩;rw [hw];clear hw w1;cases x
 ·cases y
  ·go_wp2_with fail;go_ret;exact ⟨by rw [HR.out];rfl,rfl⟩
  ·go_wp2_with fail;go_ret;exact ⟨by rw [HR.out];rfl,rfl⟩
 ·go_wp2_with fail;go_ret;exact ⟨by rw [HR.out];rfl,rfl⟩
theorem or266 (g : Nat) (x y : Int) (w : World) (h : Blk g #[.int .i64 x,.int .i64 y] 3 w) : Calls Tryz.prog 266 #[.slice (some ⟨g,0,none⟩) 2 2] w fun e w' => e = .returned (.int .i64 (if x ≠ 0 then x else y)) /\ w' = w:=by
 have c0 : w.cell? ⟨g,0,none⟩ = some (.int .i64 x):=h.cell 0;have c1 : w.cell? ⟨g,1,none⟩ = some (.int .i64 y):=h.cell 1;clear h;by_cases hx : x = 0
 ·subst hx;by_cases hy : y = 0
  ·subst hy;go_enter Tryz.func266,Tryz.ntmps266;go_wp2_with fail;go_loop [5,8] (fun _ iv => ∃ k : Nat,iv = .int .i64 k /\ k <= 2) (fun _ iv => 2 - (intOf iv).toNat)
   case atStart => exact ⟨0,rfl,by omega⟩
   case round =>
    obtain ⟨k,rfl,hk⟩:=hrel;rcases (show k = 0 ∨ k = 1 ∨ k = 2 by omega) with rfl | rfl | rfl
    ·go_wp2_with fail;go_round
     case rel => exact ⟨1,by go_num,by omega⟩
     case measure => simp [intOf]
    ·go_wp2_with fail;go_round
     case rel => exact ⟨2,by go_num,by omega⟩
     case measure => simp [intOf]
    ·go_wp2_with fail;go_ret;exact ⟨rfl,rfl⟩
  ·have hb : (y != 0) = true:=by simpa using hy
   have hb2 : (y == 0) = false:=by simpa using hy
   have HE:=Lh (show (if (0 : Int) ≠ 0 then (0 : Int) else y) = y from if_neg (by simp));go_enter Tryz.func266,Tryz.ntmps266;go_wp2_with fail;go_loop [5,8] (fun _ iv => ∃ k : Nat,iv = .int .i64 k /\ k <= 1) (fun _ iv => 2 - (intOf iv).toNat)
   case atStart => exact ⟨0,rfl,by omega⟩
   case round =>
    obtain ⟨k,rfl,hk⟩:=hrel;rcases (show k = 0 ∨ k = 1 by omega) with rfl | rfl
    ·go_wp2_with fail;go_round
     case rel => exact ⟨1,by go_num,by omega⟩
     case measure => simp [intOf]
    ·go_wp2_with fail;go_ret;exact ⟨by first | rfl | rw [HE.out],rfl⟩
 ·have hb : (x != 0) = true:=by simpa using hx
  have hb2 : (x == 0) = false:=by simpa using hx
  have HE:=Lh (show (if x ≠ 0 then x else y) = x from if_pos hx);go_enter Tryz.func266,Tryz.ntmps266;go_wp2_with fail;go_loop [5,8] (fun _ iv => iv = .int .i64 0) (fun _ iv => 2 - (intOf iv).toNat)
  case atStart => rfl
  case round =>
   subst hrel;go_wp2_with fail;go_ret;exact ⟨by first | (rw [HE.out];done) | (rw [HE.out];rfl) | rfl,rfl⟩
theorem week_nat {s : Ses} (h : Tt.weeksB s.tim.weeks 20 = true) : s.tim.weeks = (s.tim.weeks.toNat : Int) /\ s.tim.weeks.toNat ≠ 0 /\ s.tim.weeks.toNat < 18446744073709551616:=by
 obtain ⟨h0,h1⟩:=Tt.weeks_bd h;omega
theorem lowW_eq {s : Ses} (h : Tt.weeksB s.tim.weeks 20 = true) : lowW s = (Lib.ctz 64 s.tim.weeks.toNat : Int) + 1:=by
 unfold lowW;rw [Tt.low_of_ctz h]
theorem lowW_bd {s : Ses} (h : Tt.weeksB s.tim.weeks 20 = true) : 1 <= lowW s /\ lowW s <= 20:=by
 have:=Tt.low_week h;unfold lowW;omega
theorem fillB {g : Nat} {ty : TypeId} {cs : Array Value} {w0 w : World} (h : Blk g cs ty w) (hb : Below w0.heap.size w0 w) (hg : w0.heap.size <= g) (vs : List Value) (hl : cs.size = vs.length) : ∃ Y,Y = setAll w g 0 vs /\ Blk g vs.toArray ty Y /\ Below w0.heap.size w0 Y:=by
 refine ⟨_,rfl,?_,below_setAll hg vs 0 w hb⟩;have:=Blk.puts (g:=g) (ty:=ty) vs [] cs.toList [] w (by simpa using h) (by simpa using hl);simpa using this
theorem date196 (s : Ses) (w : World) (hw : Tt.weeksB s.tim.weeks 20 = true) (hT : Tz w) (h6 : 6 < w.heap.size) : Calls Tryz.prog 196 #[sesVal s] w fun e w' => e = .returned (.agg #[.string s.cls,.int .i64 s.tim.weeks,.int .i64 s.tim.day,.int .i64 s.tim.start,.int .i64 s.tim.len,.string s.room,.int .i64 (lowW s)]) /\ Below w.heap.size w w':=by
 obtain ⟨X,hX⟩ : ∃ x,x = w.heap.size:=⟨_,rfl⟩
 obtain ⟨Y,hY⟩ : ∃ x,x = w.heap.size + 1:=⟨_,rfl⟩
 obtain ⟨w0,hw0⟩ : ∃ x,x = (w.alloc (.cells #[.string s.cls,.int .i64 s.tim.weeks,.int .i64 s.tim.day,.int .i64 s.tim.start,.int .i64 s.tim.len,.string s.room] 107)).alloc (.cells #[.string ⟨#[]⟩,.int .i64 0,.int .i64 0,.int .i64 0,.int .i64 0,.string ⟨#[]⟩,.int .i64 0] 227):=⟨_,rfl⟩
 have HX0:=Lh (show Blk X #[.string s.cls,.int .i64 s.tim.weeks,.int .i64 s.tim.day,.int .i64 s.tim.start,.int .i64 s.tim.len,.string s.room] 107 w0 from by rw [hw0,hX];exact (Blk.new w _ _).alloc _);have HY0:=Lh (show Blk Y #[.string ⟨#[]⟩,.int .i64 0,.int .i64 0,.int .i64 0,.int .i64 0,.string ⟨#[]⟩,.int .i64 0] 227 w0 from by rw [hw0,hY];exact Blk.new' _ _ _ (by simp));have HL0:=Lh (show Below w.heap.size w w0 from by rw [hw0];exact (below_box w _).trans ((below_box _ _).mono (by simp)));have hYl : w.heap.size <= Y:=by omega
 have hXY : X ≠ Y:=by omega
 obtain ⟨e1,e2,e3⟩:=week_nat hw;have e4:=(Tt.weeks_bd hw).2;have HE:=Lh (lowW_eq hw);have HB:=Lh (lowW_bd hw);obtain ⟨k,hk⟩ : ∃ k,k = s.tim.weeks.toNat:=⟨_,rfl⟩
 rw [<- hk] at e1 e2 e3 HE;have HT:=Lh (fun (W : World) (hW : Below w0.heap.size w0 W) => tz269 k W e3 e2 ((hT.below h6 HL0.out).below (Nat.lt_of_lt_of_le h6 HL0.out.size) hW));clear hT hk hw;unfold sesVal sesCells;rw [e1] at e4 HX0 hw0 ⊢;clear e1 e2 e3 h6;obtain ⟨m,hm⟩ : ∃ m,m = Lib.ctz 64 k:=⟨_,rfl⟩
 rw [<- hm] at HT HE;have hb:=HB.out;rw [HE.out] at hb ⊢;clear hm HB HE;go_enter Tryz.func196,Tryz.ntmps196;go_upto_region 1 with (fail);rw [<- hw0,<- hY,<- hX];clear hw0 hX hY;refine wp_region_tail 8 (by kernel_rfl) (fun listed a x => ∃ (l0 l1 l2 l3 l4 l5 l6 l7 : Bool) (t3 t4 t5 t6 t7 t8 t9 t10 : Value),listed = #[l0,l1,l2,l3,l4,l5,l6,l7,false] /\ a = ⟨(.agg #[.string s.cls,.int .i64 k,.int .i64 s.tim.day,.int .i64 s.tim.start,.int .i64 s.tim.len,.string s.room] :: .pointer (some ⟨X,0,none⟩) :: .pointer (some ⟨Y,0,none⟩) :: t3 :: t4 :: t5 :: t6 :: t7 :: t8 :: t9 :: t10 :: []).toArray,[]⟩ /\ Hid (l0 = true -> t3 = .agg #[.string s.cls,.int .i64 k,.int .i64 s.tim.day,.int .i64 s.tim.start,.int .i64 s.tim.len,.string s.room]) /\ Hid (l1 = true -> t4 = .pointer (some ⟨X,1,none⟩)) /\ Hid (l2 = true -> t5 = .pointer (some ⟨X,1,none⟩)) /\ Hid (l3 = true -> t6 = .int .i64 k) /\ Hid (l4 = true -> t7 = .int .u64 k) /\ Hid (l5 = true -> t8 = .int .i64 m) /\ Hid (l6 = true -> t9 = .int .i64 (m + 1)) /\ Hid (l7 = true -> t10 = .agg #[.string s.cls,.int .i64 k,.int .i64 s.tim.day,.int .i64 s.tim.start,.int .i64 s.tim.len,.string s.room,.int .i64 (m + 1)]) /\ Hid (Made w0 x)) (by decide) (by kernel_rfl) (by kernel_rfl) ?_ ?_ ?_ ?_
 ·exact ⟨false,false,false,false,false,false,false,false,_,_,_,_,_,_,_,_,rfl,rfl,Lh (fun h => by cases h),Lh (fun h => by cases h),Lh (fun h => by cases h),Lh (fun h => by cases h),Lh (fun h => by cases h),Lh (fun h => by cases h),Lh (fun h => by cases h),Lh (fun h => by cases h),Lh (Made.start w0)⟩
 ·intro listed a x hj;obtain ⟨l0,l1,l2,l3,l4,l5,hj⟩:=hj;obtain ⟨l6,l7,t3,t4,t5,t6,hj⟩:=hj;obtain ⟨t7,t8,t9,t10,hj⟩:=hj;obtain ⟨h1, -⟩:=hj;subst h1;exact ⟨rfl,fun k h1 h2 => by (have h2 : k < 9:=h2);obtain rfl : k = 8:=(by omega);rfl⟩
 ·intro listed a x i hj hlt hu haf;obtain ⟨l0,l1,l2,l3,l4,l5,hj⟩:=hj;obtain ⟨l6,l7,t3,t4,t5,t6,hj⟩:=hj;obtain ⟨t7,t8,t9,t10,hl_,ha_,hj⟩:=hj;obtain ⟨H0,H1,H2,H3,H4,H5,hj⟩:=hj;obtain ⟨H6,H7,hj⟩:=hj;have HS:=hj;clear hj;subst hl_;subst ha_;rcases (show ∀ i : Nat,i < 8 -> (i = 0 ∨ i = 1 ∨ i = 2 ∨ i = 3 ∨ i = 4 ∨ i = 5 ∨ i = 6 ∨ i = 7) by decide) i hlt with rfl | rfl | rfl | rfl | rfl | rfl | rfl | rfl
  ·have haf:=haf _ rfl;clear haf;have hu : l0 = false:=hu;have x0 : x.cell? ⟨X,0,none⟩ = some (.string s.cls):=(HX0.out.below HS.out.below HX0.out.lt).cell 0;have x1 : x.cell? ⟨X,1,none⟩ = some (.int .i64 k):=(HX0.out.below HS.out.below HX0.out.lt).cell 1;have x2 : x.cell? ⟨X,2,none⟩ = some (.int .i64 s.tim.day):=(HX0.out.below HS.out.below HX0.out.lt).cell 2;have x3 : x.cell? ⟨X,3,none⟩ = some (.int .i64 s.tim.start):=(HX0.out.below HS.out.below HX0.out.lt).cell 3;have x4 : x.cell? ⟨X,4,none⟩ = some (.int .i64 s.tim.len):=(HX0.out.below HS.out.below HX0.out.lt).cell 4;have x5 : x.cell? ⟨X,5,none⟩ = some (.string s.room):=(HX0.out.below HS.out.below HX0.out.lt).cell 5;refine wpOp_of_list_any rfl fun QQ hQ => ?_
   have hQQ:=Lh hQ;clear hQ;simp only [List.getElem_toArray,List.getElem_cons_zero];go_wp2_with fail;exact hQQ.out _ _ ⟨true,l1,l2,l3,l4,l5,l6,l7,_,_,_,_,_,_,_,_,rfl,rfl,Lh (fun _ => rfl),H1,H2,H3,H4,H5,H6,H7,HS⟩
  ·have haf:=haf _ rfl;clear haf;have hu : l1 = false:=hu;refine wpOp_of_list_any rfl fun QQ hQ => ?_
   have hQQ:=Lh hQ;clear hQ;simp only [List.getElem_toArray,List.getElem_cons_zero,List.getElem_cons_succ];go_wp2_with fail;exact hQQ.out _ _ ⟨l0,true,l2,l3,l4,l5,l6,l7,_,_,_,_,_,_,_,_,rfl,rfl,H0,Lh (fun _ => rfl),H2,H3,H4,H5,H6,H7,HS⟩
  ·have haf:=haf _ rfl;have q1 : l1 = true:=haf ⟨1,Go.Ground.data⟩ (by simp) rfl;clear haf;have hu : l2 = false:=hu;have e1:=(H1.out q1)
   subst e1;clear H1;refine wpOp_of_list_any rfl fun QQ hQ => ?_
   have hQQ:=Lh hQ;clear hQ;simp only [List.getElem_toArray,List.getElem_cons_zero,List.getElem_cons_succ];go_wp2_with fail;exact hQQ.out _ _ ⟨l0,l1,true,l3,l4,l5,l6,l7,_,_,_,_,_,_,_,_,rfl,rfl,H0,Lh (fun _ => rfl),Lh (fun _ => rfl),H3,H4,H5,H6,H7,HS⟩
  ·have haf:=haf _ rfl;have q2 : l2 = true:=haf ⟨2,Go.Ground.data⟩ (by simp) rfl;clear haf;have hu : l3 = false:=hu;have e2:=(H2.out q2)
   subst e2;clear H2;have x0 : x.cell? ⟨X,0,none⟩ = some (.string s.cls):=(HX0.out.below HS.out.below HX0.out.lt).cell 0;have x1 : x.cell? ⟨X,1,none⟩ = some (.int .i64 k):=(HX0.out.below HS.out.below HX0.out.lt).cell 1;have x2 : x.cell? ⟨X,2,none⟩ = some (.int .i64 s.tim.day):=(HX0.out.below HS.out.below HX0.out.lt).cell 2;have x3 : x.cell? ⟨X,3,none⟩ = some (.int .i64 s.tim.start):=(HX0.out.below HS.out.below HX0.out.lt).cell 3;have x4 : x.cell? ⟨X,4,none⟩ = some (.int .i64 s.tim.len):=(HX0.out.below HS.out.below HX0.out.lt).cell 4;have x5 : x.cell? ⟨X,5,none⟩ = some (.string s.room):=(HX0.out.below HS.out.below HX0.out.lt).cell 5;refine wpOp_of_list_any rfl fun QQ hQ => ?_
   have hQQ:=Lh hQ;clear hQ;simp only [List.getElem_toArray,List.getElem_cons_zero,List.getElem_cons_succ];go_wp2_with fail;exact hQQ.out _ _ ⟨l0,l1,l2,true,l4,l5,l6,l7,_,_,_,_,_,_,_,_,rfl,rfl,H0,H1,Lh (fun _ => rfl),Lh (fun _ => rfl),H4,H5,H6,H7,HS⟩
  ·have haf:=haf _ rfl;have q3 : l3 = true:=haf ⟨3,Go.Ground.data⟩ (by simp) rfl;clear haf;have hu : l4 = false:=hu;have e3:=(H3.out q3)
   subst e3;clear H3;refine wpOp_of_list_any rfl fun QQ hQ => ?_
   have hQQ:=Lh hQ;clear hQ;simp only [List.getElem_toArray,List.getElem_cons_zero,List.getElem_cons_succ];go_wp2_with fail;exact hQQ.out _ _ ⟨l0,l1,l2,l3,true,l5,l6,l7,_,_,_,_,_,_,_,_,rfl,rfl,H0,H1,H2,Lh (fun _ => rfl),Lh (fun _ => rfl),H5,H6,H7,HS⟩
  ·have haf:=haf _ rfl;have q4 : l4 = true:=haf ⟨4,Go.Ground.data⟩ (by simp) rfl;clear haf;have hu : l5 = false:=hu;have e4:=(H4.out q4)
   subst e4;clear H4;refine wpOp_of_list_any rfl fun QQ hQ => ?_
   have hQQ:=Lh hQ;clear hQ;simp only [List.getElem_toArray,List.getElem_cons_zero,List.getElem_cons_succ];go_wp2_with fail;refine (HT.out x HS.out.below).mono ?_;rintro e x1 ⟨rfl,hx⟩;rw [hx];clear hx x1;go_wp2_with fail;exact hQQ.out _ _ ⟨l0,l1,l2,l3,l4,true,l6,l7,_,_,_,_,_,_,_,_,rfl,rfl,H0,H1,H2,H3,Lh (fun _ => rfl),Lh (fun _ => rfl),H6,H7,HS⟩
  ·have haf:=haf _ rfl;have q5 : l5 = true:=haf ⟨5,Go.Ground.data⟩ (by simp) rfl;clear haf;have hu : l6 = false:=hu;have e5:=(H5.out q5)
   subst e5;clear H5;refine wpOp_of_list_any rfl fun QQ hQ => ?_
   have hQQ:=Lh hQ;clear hQ;simp only [List.getElem_toArray,List.getElem_cons_zero,List.getElem_cons_succ];go_wp2_with fail;exact hQQ.out _ _ ⟨l0,l1,l2,l3,l4,l5,true,l7,_,_,_,_,_,_,_,_,rfl,rfl,H0,H1,H2,H3,H4,Lh (fun _ => rfl),Lh (fun _ => rfl),H7,HS⟩
  ·have haf:=haf _ rfl;have q0 : l0 = true:=haf ⟨0,Go.Ground.data⟩ (by simp) rfl;have q6 : l6 = true:=haf ⟨6,Go.Ground.data⟩ (by simp) rfl;clear haf;have hu : l7 = false:=hu;have e0:=(H0.out q0)
   subst e0;clear H0;have e6:=(H6.out q6)
   subst e6;clear H6;refine wpOp_of_list_any rfl fun QQ hQ => ?_
   have hQQ:=Lh hQ;clear hQ;simp only [List.getElem_toArray,List.getElem_cons_zero,List.getElem_cons_succ];go_wp2_with fail;exact hQQ.out _ _ ⟨l0,l1,l2,l3,l4,l5,l6,true,_,_,_,_,_,_,_,_,rfl,rfl,Lh (fun _ => rfl),H1,H2,H3,H4,H5,Lh (fun _ => rfl),Lh (fun _ => rfl),HS⟩
 ·intro listed a x hj hall;obtain ⟨l0,l1,l2,l3,l4,l5,hj⟩:=hj;obtain ⟨l6,l7,t3,t4,t5,t6,hj⟩:=hj;obtain ⟨t7,t8,t9,t10,hl_,ha_,hj⟩:=hj;obtain ⟨H0,H1,H2,H3,H4,H5,hj⟩:=hj;obtain ⟨H6,H7,hj⟩:=hj;have HS:=hj;clear hj;subst hl_;subst ha_;have q7 : l7 = true:=hall 7 (by omega);clear hall;have e7:=(H7.out q7)
  subst e7;have HY1:=Lh (HY0.out.below HS.out.below HY0.out.lt);have HL1:=Lh (HL0.out.trans (HS.out.below.mono HL0.out.size));have y0:=HY1.out.cell 0;have y1:=HY1.out.cell 1;have y2:=HY1.out.cell 2;have y3:=HY1.out.cell 3;have y4:=HY1.out.cell 4;have y5:=HY1.out.cell 5;have y6:=HY1.out.cell 6;have f0:=HY1.out.frozen 0;have f1:=HY1.out.frozen 1;have f2:=HY1.out.frozen 2;have f3:=HY1.out.frozen 3;have f4:=HY1.out.frozen 4;have f5:=HY1.out.frozen 5;have f6:=HY1.out.frozen 6;simp only [List.getElem?_toArray,List.getElem?_cons_zero,List.getElem?_cons_succ] at y0 y1 y2 y3 y4 y5 y6;obtain ⟨V,hV,hBk,hE⟩:=fillB HY1.out HL1.out hYl [.string s.cls,.int .i64 k,.int .i64 s.tim.day,.int .i64 s.tim.start,.int .i64 s.tim.len,.string s.room,.int .i64 (m + 1)] rfl;have HBk:=Lh hBk;have HE:=Lh hE;clear hBk hE;simp only [setAll,Nat.zero_add,Nat.reduceAdd] at hV;refine tail_any (fun a x => ∃ (t3 t4 t5 t6 t7 t8 t9 t10 : Value),a = ⟨(.agg #[.string s.cls,.int .i64 k,.int .i64 s.tim.day,.int .i64 s.tim.start,.int .i64 s.tim.len,.string s.room] :: .pointer (some ⟨X,0,none⟩) :: .pointer (some ⟨Y,0,none⟩) :: t3 :: t4 :: t5 :: t6 :: t7 :: t8 :: t9 :: t10 :: []).toArray,[]⟩ /\ Blk Y #[.string s.cls,.int .i64 k,.int .i64 s.tim.day,.int .i64 s.tim.start,.int .i64 s.tim.len,.string s.room,.int .i64 (m + 1)] 227 x /\ Below w.heap.size w x) ?_ fun QQ hQ => ?_
  ·intro a x hpost;obtain ⟨t3,t4,t5,t6,t7,t8,hpost⟩:=hpost;obtain ⟨t9,t10,ha_,hpost⟩:=hpost;subst ha_;obtain ⟨hBk,hE⟩:=hpost;go_wp2_with fail;have r0:=hBk.cell 0;have r1:=hBk.cell 1;have r2:=hBk.cell 2;have r3:=hBk.cell 3;have r4:=hBk.cell 4;have r5:=hBk.cell 5;have r6:=hBk.cell 6;simp only [List.getElem?_toArray,List.getElem?_cons_zero,List.getElem?_cons_succ] at r0 r1 r2 r3 r4 r5 r6;exact bodyPost_ret (v:=.agg #[.string s.cls,.int .i64 k,.int .i64 s.tim.day,.int .i64 s.tim.start,.int .i64 s.tim.len,.string s.room,.int .i64 (m + 1)]) (by simp [results,Tryz.results196,go_sem,r0,r1,r2,r3,r4,r5,r6]) rfl ⟨rfl,hE⟩
  have hQQ:=Lh hQ;clear hQ;simp only [List.drop_succ_cons,List.drop_zero];go_wp2_with fail;rw [<- hV];clear hV;exact hQQ.out _ _ ⟨_,_,_,_,_,_,_,_,rfl,HBk.out,HE.out⟩
theorem order195 (sa sb : Ses) (la lb : Int) (w : World) : Calls Tryz.prog 195 #[.agg #[.string sa.cls,.int .i64 sa.tim.weeks,.int .i64 sa.tim.day,.int .i64 sa.tim.start,.int .i64 sa.tim.len,.string sa.room,.int .i64 la],.agg #[.string sb.cls,.int .i64 sb.tim.weeks,.int .i64 sb.tim.day,.int .i64 sb.tim.start,.int .i64 sb.tim.len,.string sb.room,.int .i64 lb]] w fun e w' => e = .returned (.int .i64 (if cmpS sa.cls sb.cls ≠ 0 then cmpS sa.cls sb.cls else Lib.compareInt la lb)) /\ Below w.heap.size w w':=by
 obtain ⟨X,hX⟩ : ∃ x,x = w.heap.size:=⟨_,rfl⟩
 obtain ⟨Y,hY⟩ : ∃ x,x = w.heap.size + 1:=⟨_,rfl⟩
 obtain ⟨w0,hw0⟩ : ∃ x,x = (w.alloc (.cells #[.string sa.cls,.int .i64 sa.tim.weeks,.int .i64 sa.tim.day,.int .i64 sa.tim.start,.int .i64 sa.tim.len,.string sa.room,.int .i64 la] 227)).alloc (.cells #[.string sb.cls,.int .i64 sb.tim.weeks,.int .i64 sb.tim.day,.int .i64 sb.tim.start,.int .i64 sb.tim.len,.string sb.room,.int .i64 lb] 227):=⟨_,rfl⟩
 have HX0:=Lh (show Blk X #[.string sa.cls,.int .i64 sa.tim.weeks,.int .i64 sa.tim.day,.int .i64 sa.tim.start,.int .i64 sa.tim.len,.string sa.room,.int .i64 la] 227 w0 from by rw [hw0,hX];exact (Blk.new w _ _).alloc _);have HY0:=Lh (show Blk Y #[.string sb.cls,.int .i64 sb.tim.weeks,.int .i64 sb.tim.day,.int .i64 sb.tim.start,.int .i64 sb.tim.len,.string sb.room,.int .i64 lb] 227 w0 from by rw [hw0,hY];exact Blk.new' _ _ _ (by simp));have HL0:=Lh (show Below w.heap.size w w0 from by rw [hw0];exact (below_box w _).trans ((below_box _ _).mono (by simp)));obtain ⟨cc,hcc⟩ : ∃ c,c = cmpS sa.cls sb.cls:=⟨_,rfl⟩
 have HC1:=Lh (cmp267 sa.cls sb.cls);rw [<- hcc] at HC1 ⊢;obtain ⟨dd,hdd⟩ : ∃ c,c = Lib.compareInt la lb:=⟨_,rfl⟩
 have HC2:=Lh (Tryz.cmp_Compare_int la lb);rw [<- hdd] at HC2 ⊢;obtain ⟨ff,hff⟩ : ∃ c,c = (if cc ≠ 0 then cc else dd):=⟨_,rfl⟩
 have HC3:=Lh (fun (g : Nat) (W : World) => or266 g cc dd W);rw [<- hff] at HC3 ⊢;clear hcc hdd hff;go_enter Tryz.func195,Tryz.ntmps195;go_upto_region 1 with (fail);rw [<- hw0,<- hY,<- hX];clear hw0 hX hY;refine wp_region_tail 11 (by kernel_rfl) (fun listed a x => ∃ (l0 l1 l2 l3 l4 l5 l6 l7 l8 l9 l10 : Bool) (t5 t6 t7 t8 t9 t10 t11 t12 t13 t14 t15 : Value),listed = #[l0,l1,l2,l3,l4,l5,l6,l7,l8,l9,l10,false,false,false,false] /\ a = ⟨(.agg #[.string sa.cls,.int .i64 sa.tim.weeks,.int .i64 sa.tim.day,.int .i64 sa.tim.start,.int .i64 sa.tim.len,.string sa.room,.int .i64 la] :: .agg #[.string sb.cls,.int .i64 sb.tim.weeks,.int .i64 sb.tim.day,.int .i64 sb.tim.start,.int .i64 sb.tim.len,.string sb.room,.int .i64 lb] :: .pointer (some ⟨X,0,none⟩) :: .pointer (some ⟨Y,0,none⟩) :: .int .i64 0 :: t5 :: t6 :: t7 :: t8 :: t9 :: t10 :: t11 :: t12 :: t13 :: t14 :: t15 :: undef :: undef :: undef :: []).toArray,[]⟩ /\ Hid (l0 = true -> t5 = .pointer (some ⟨X,0,none⟩)) /\ Hid (l1 = true -> t6 = .pointer (some ⟨X,0,none⟩)) /\ Hid (l2 = true -> t7 = .string sa.cls) /\ Hid (l3 = true -> t8 = .pointer (some ⟨Y,0,none⟩)) /\ Hid (l4 = true -> t9 = .pointer (some ⟨Y,0,none⟩)) /\ Hid (l5 = true -> t10 = .string sb.cls) /\ Hid (l6 = true -> t11 = .int .i64 cc) /\ Hid (l7 = true -> t12 = .pointer (some ⟨X,6,none⟩)) /\ Hid (l8 = true -> t13 = .int .i64 la) /\ Hid (l9 = true -> t14 = .pointer (some ⟨Y,6,none⟩)) /\ Hid (l10 = true -> t15 = .int .i64 lb) /\ Hid (Made w0 x)) (by decide) (by kernel_rfl) (by kernel_rfl) ?_ ?_ ?_ ?_
 ·exact ⟨false,false,false,false,false,false,false,false,false,false,false,_,_,_,_,_,_,_,_,_,_,_,rfl,rfl,Lh (fun h => by cases h),Lh (fun h => by cases h),Lh (fun h => by cases h),Lh (fun h => by cases h),Lh (fun h => by cases h),Lh (fun h => by cases h),Lh (fun h => by cases h),Lh (fun h => by cases h),Lh (fun h => by cases h),Lh (fun h => by cases h),Lh (fun h => by cases h),Lh (Made.start w0)⟩
 ·intro listed a x hj;obtain ⟨l0,l1,l2,l3,l4,l5,hj⟩:=hj;obtain ⟨l6,l7,l8,l9,l10,t5,hj⟩:=hj;obtain ⟨t6,t7,t8,t9,t10,t11,hj⟩:=hj;obtain ⟨t12,t13,t14,t15,hj⟩:=hj;obtain ⟨h1, -⟩:=hj;subst h1;exact ⟨rfl,fun k h1 h2 => by (have h2 : k < 15:=h2);rcases (show k = 11 ∨ k = 12 ∨ k = 13 ∨ k = 14 by omega) with rfl | rfl | rfl | rfl <;> rfl⟩
 ·intro listed a x i hj hlt hu haf;obtain ⟨l0,l1,l2,l3,l4,l5,hj⟩:=hj;obtain ⟨l6,l7,l8,l9,l10,t5,hj⟩:=hj;obtain ⟨t6,t7,t8,t9,t10,t11,hj⟩:=hj;obtain ⟨t12,t13,t14,t15,hl_,ha_,hj⟩:=hj;obtain ⟨H0,H1,H2,H3,H4,H5,hj⟩:=hj;obtain ⟨H6,H7,H8,H9,H10,hj⟩:=hj;have HS:=hj;clear hj;subst hl_;subst ha_;rcases (show ∀ i : Nat,i < 11 -> (i = 0 ∨ i = 1 ∨ i = 2 ∨ i = 3 ∨ i = 4 ∨ i = 5 ∨ i = 6 ∨ i = 7 ∨ i = 8 ∨ i = 9 ∨ i = 10) by decide) i hlt with rfl | rfl | rfl | rfl | rfl | rfl | rfl | rfl | rfl | rfl | rfl
  ·have haf:=haf _ rfl;clear haf;have hu : l0 = false:=hu;refine wpOp_of_list_any rfl fun QQ hQ => ?_
   have hQQ:=Lh hQ;clear hQ;simp only [List.getElem_toArray,List.getElem_cons_zero];go_wp2_with fail;exact hQQ.out _ _ ⟨true,l1,l2,l3,l4,l5,l6,l7,l8,l9,l10,_,_,_,_,_,_,_,_,_,_,_,rfl,rfl,Lh (fun _ => rfl),H1,H2,H3,H4,H5,H6,H7,H8,H9,H10,HS⟩
  ·have haf:=haf _ rfl;have q0 : l0 = true:=haf ⟨0,Go.Ground.data⟩ (by simp) rfl;clear haf;have hu : l1 = false:=hu;have e0:=(H0.out q0)
   subst e0;clear H0;refine wpOp_of_list_any rfl fun QQ hQ => ?_
   have hQQ:=Lh hQ;clear hQ;simp only [List.getElem_toArray,List.getElem_cons_zero,List.getElem_cons_succ];go_wp2_with fail;exact hQQ.out _ _ ⟨l0,true,l2,l3,l4,l5,l6,l7,l8,l9,l10,_,_,_,_,_,_,_,_,_,_,_,rfl,rfl,Lh (fun _ => rfl),Lh (fun _ => rfl),H2,H3,H4,H5,H6,H7,H8,H9,H10,HS⟩
  ·have haf:=haf _ rfl;have q1 : l1 = true:=haf ⟨1,Go.Ground.data⟩ (by simp) rfl;clear haf;have hu : l2 = false:=hu;have e1:=(H1.out q1)
   subst e1;clear H1;have hc : x.cell? ⟨X,0,none⟩ = some (.string sa.cls):=(HX0.out.below HS.out.below HX0.out.lt).cell 0;refine wpOp_of_list_any rfl fun QQ hQ => ?_
   have hQQ:=Lh hQ;clear hQ;simp only [List.getElem_toArray,List.getElem_cons_zero,List.getElem_cons_succ];go_wp2_with fail;exact hQQ.out _ _ ⟨l0,l1,true,l3,l4,l5,l6,l7,l8,l9,l10,_,_,_,_,_,_,_,_,_,_,_,rfl,rfl,H0,Lh (fun _ => rfl),Lh (fun _ => rfl),H3,H4,H5,H6,H7,H8,H9,H10,HS⟩
  ·have haf:=haf _ rfl;clear haf;have hu : l3 = false:=hu;refine wpOp_of_list_any rfl fun QQ hQ => ?_
   have hQQ:=Lh hQ;clear hQ;simp only [List.getElem_toArray,List.getElem_cons_zero,List.getElem_cons_succ];go_wp2_with fail;exact hQQ.out _ _ ⟨l0,l1,l2,true,l4,l5,l6,l7,l8,l9,l10,_,_,_,_,_,_,_,_,_,_,_,rfl,rfl,H0,H1,H2,Lh (fun _ => rfl),H4,H5,H6,H7,H8,H9,H10,HS⟩
  ·have haf:=haf _ rfl;have q3 : l3 = true:=haf ⟨3,Go.Ground.data⟩ (by simp) rfl;clear haf;have hu : l4 = false:=hu;have e3:=(H3.out q3)
   subst e3;clear H3;refine wpOp_of_list_any rfl fun QQ hQ => ?_
   have hQQ:=Lh hQ;clear hQ;simp only [List.getElem_toArray,List.getElem_cons_zero,List.getElem_cons_succ];go_wp2_with fail;exact hQQ.out _ _ ⟨l0,l1,l2,l3,true,l5,l6,l7,l8,l9,l10,_,_,_,_,_,_,_,_,_,_,_,rfl,rfl,H0,H1,H2,Lh (fun _ => rfl),Lh (fun _ => rfl),H5,H6,H7,H8,H9,H10,HS⟩
  ·have haf:=haf _ rfl;have q4 : l4 = true:=haf ⟨4,Go.Ground.data⟩ (by simp) rfl;clear haf;have hu : l5 = false:=hu;have e4:=(H4.out q4)
   subst e4;clear H4;have hc : x.cell? ⟨Y,0,none⟩ = some (.string sb.cls):=(HY0.out.below HS.out.below HY0.out.lt).cell 0;refine wpOp_of_list_any rfl fun QQ hQ => ?_
   have hQQ:=Lh hQ;clear hQ;simp only [List.getElem_toArray,List.getElem_cons_zero,List.getElem_cons_succ];go_wp2_with fail;exact hQQ.out _ _ ⟨l0,l1,l2,l3,l4,true,l6,l7,l8,l9,l10,_,_,_,_,_,_,_,_,_,_,_,rfl,rfl,H0,H1,H2,H3,Lh (fun _ => rfl),Lh (fun _ => rfl),H6,H7,H8,H9,H10,HS⟩
  ·have haf:=haf _ rfl;have q2 : l2 = true:=haf ⟨2,Go.Ground.data⟩ (by simp) rfl;have q5 : l5 = true:=haf ⟨5,Go.Ground.data⟩ (by simp) rfl;clear haf;have hu : l6 = false:=hu;have e2:=(H2.out q2)
   subst e2;clear H2;have e5:=(H5.out q5)
   subst e5;clear H5;refine wpOp_of_list_any rfl fun QQ hQ => ?_
   have hQQ:=Lh hQ;clear hQ;simp only [List.getElem_toArray,List.getElem_cons_zero,List.getElem_cons_succ];go_wp2_with fail;refine (HC1.out x).mono ?_;rintro e x1 ⟨rfl,hx⟩;rw [hx];clear hx x1;go_wp2_with fail;exact hQQ.out _ _ ⟨l0,l1,l2,l3,l4,l5,true,l7,l8,l9,l10,_,_,_,_,_,_,_,_,_,_,_,rfl,rfl,H0,H1,Lh (fun _ => rfl),H3,H4,Lh (fun _ => rfl),Lh (fun _ => rfl),H7,H8,H9,H10,HS⟩
  ·have haf:=haf _ rfl;clear haf;have hu : l7 = false:=hu;refine wpOp_of_list_any rfl fun QQ hQ => ?_
   have hQQ:=Lh hQ;clear hQ;simp only [List.getElem_toArray,List.getElem_cons_zero,List.getElem_cons_succ];go_wp2_with fail;exact hQQ.out _ _ ⟨l0,l1,l2,l3,l4,l5,l6,true,l8,l9,l10,_,_,_,_,_,_,_,_,_,_,_,rfl,rfl,H0,H1,H2,H3,H4,H5,H6,Lh (fun _ => rfl),H8,H9,H10,HS⟩
  ·have haf:=haf _ rfl;have q7 : l7 = true:=haf ⟨7,Go.Ground.data⟩ (by simp) rfl;clear haf;have hu : l8 = false:=hu;have e7:=(H7.out q7)
   subst e7;clear H7;have hc : x.cell? ⟨X,6,none⟩ = some (.int .i64 la):=(HX0.out.below HS.out.below HX0.out.lt).cell 6;refine wpOp_of_list_any rfl fun QQ hQ => ?_
   have hQQ:=Lh hQ;clear hQ;simp only [List.getElem_toArray,List.getElem_cons_zero,List.getElem_cons_succ];go_wp2_with fail;exact hQQ.out _ _ ⟨l0,l1,l2,l3,l4,l5,l6,l7,true,l9,l10,_,_,_,_,_,_,_,_,_,_,_,rfl,rfl,H0,H1,H2,H3,H4,H5,H6,Lh (fun _ => rfl),Lh (fun _ => rfl),H9,H10,HS⟩
  ·have haf:=haf _ rfl;clear haf;have hu : l9 = false:=hu;refine wpOp_of_list_any rfl fun QQ hQ => ?_
   have hQQ:=Lh hQ;clear hQ;simp only [List.getElem_toArray,List.getElem_cons_zero,List.getElem_cons_succ];go_wp2_with fail;exact hQQ.out _ _ ⟨l0,l1,l2,l3,l4,l5,l6,l7,l8,true,l10,_,_,_,_,_,_,_,_,_,_,_,rfl,rfl,H0,H1,H2,H3,H4,H5,H6,H7,H8,Lh (fun _ => rfl),H10,HS⟩
  ·have haf:=haf _ rfl;have q9 : l9 = true:=haf ⟨9,Go.Ground.data⟩ (by simp) rfl;clear haf;have hu : l10 = false:=hu;have e9:=(H9.out q9)
   subst e9;clear H9;have hc : x.cell? ⟨Y,6,none⟩ = some (.int .i64 lb):=(HY0.out.below HS.out.below HY0.out.lt).cell 6;refine wpOp_of_list_any rfl fun QQ hQ => ?_
   have hQQ:=Lh hQ;clear hQ;simp only [List.getElem_toArray,List.getElem_cons_zero,List.getElem_cons_succ];go_wp2_with fail;exact hQQ.out _ _ ⟨l0,l1,l2,l3,l4,l5,l6,l7,l8,l9,true,_,_,_,_,_,_,_,_,_,_,_,rfl,rfl,H0,H1,H2,H3,H4,H5,H6,H7,H8,Lh (fun _ => rfl),Lh (fun _ => rfl),HS⟩
 ·intro listed a x hj hall;obtain ⟨l0,l1,l2,l3,l4,l5,hj⟩:=hj;obtain ⟨l6,l7,l8,l9,l10,t5,hj⟩:=hj;obtain ⟨t6,t7,t8,t9,t10,t11,hj⟩:=hj;obtain ⟨t12,t13,t14,t15,hl_,ha_,hj⟩:=hj;obtain ⟨H0,H1,H2,H3,H4,H5,hj⟩:=hj;obtain ⟨H6,H7,H8,H9,H10,hj⟩:=hj;have HS:=hj;clear hj;subst hl_;subst ha_;have q8 : l8 = true:=hall 8 (by omega);have q10 : l10 = true:=hall 10 (by omega);have q6 : l6 = true:=hall 6 (by omega);clear hall;have e8:=(H8.out q8)
  subst e8;have e10:=(H10.out q10)
  subst e10;have e6:=(H6.out q6)
  subst e6;refine tail_any (fun a x => ∃ (t4 t5 t6 t7 t8 t9 t10 t11 t12 t13 t14 t15 t16 t17 t18 : Value),a = ⟨(.agg #[.string sa.cls,.int .i64 sa.tim.weeks,.int .i64 sa.tim.day,.int .i64 sa.tim.start,.int .i64 sa.tim.len,.string sa.room,.int .i64 la] :: .agg #[.string sb.cls,.int .i64 sb.tim.weeks,.int .i64 sb.tim.day,.int .i64 sb.tim.start,.int .i64 sb.tim.len,.string sb.room,.int .i64 lb] :: .pointer (some ⟨X,0,none⟩) :: .pointer (some ⟨Y,0,none⟩) :: t4 :: t5 :: t6 :: t7 :: t8 :: t9 :: t10 :: t11 :: t12 :: t13 :: t14 :: t15 :: t16 :: t17 :: t18 :: []).toArray,[]⟩ /\ t4 = .int .i64 ff /\ Below w.heap.size w x) ?_ fun QQ hQ => ?_
  ·intro a x hpost;obtain ⟨t4,t5,t6,t7,t8,t9,hpost⟩:=hpost;obtain ⟨t10,t11,t12,t13,t14,t15,hpost⟩:=hpost;obtain ⟨t16,t17,t18,ha_,hpost⟩:=hpost;subst ha_;obtain ⟨rfl,hb⟩:=hpost;have HB:=Lh hb;clear hb;go_wp2_with fail;go_ret;exact ⟨rfl,HB.out⟩
  have hQQ:=Lh hQ;clear hQ;simp only [List.drop_succ_cons,List.drop_zero];go_wp2_with fail;refine (HC2.out x).mono ?_;rintro e x1 ⟨rfl,hx⟩;rw [hx];clear hx x1;go_wp2_with fail;refine (HC3.out x.heap.size _ (Blk.new x _ _)).mono ?_;rintro e x1 ⟨rfl,hx⟩;rw [hx];clear hx x1;go_wp2_with fail;exact hQQ.out _ _ ⟨_,_,_,_,_,_,_,_,_,_,_,_,_,_,_,rfl,rfl,(HL0.out.trans (HS.out.below.mono HL0.out.size)).trans ((below_box x _).mono (Nat.le_trans HL0.out.size HS.out.below.size))⟩
end Go.Proofs.YtageielcdebjlaaGreatDoor
