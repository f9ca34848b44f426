/- timetableref39.Days: its contract: the days of the series. timetablemore.many: its contract: a number. recurrence.regulars: the iterator over the regular days of a series; slices.Clone and Contains at whole numbers. DERIVED: THE SHELF's CONTRACTS AT THIS DUMP, IN PLAIN WORDS (tools/lay-plain.mjs out of 'TryzSort.lean', which tools/lay-shelf.mjs wrote): THE SAME DECLARATIONS UNDER THE SAME NAMES: 'import', 'namespace', 'open', 'def', 'theorem' AND NOTHING ELSE: no command of the shelf's: FOR A HAND-IN. Each laying: the table of numbers ('.._ren') and one theorem, a field a fact of the dump's own or the kernel's comparison; each contract: ONE APPLICATION. recurrence.Days: its contract. Plain facts on identifiers of events, and on decimal numbers. No program in sight. Condition: none. Identifiers of events: contracts of feed.right, timetableref40.right and decimal. Codes and labels: contracts of timetableref03.Valid and of both label functions; of timetableref40.right. Labels and identifiers: contracts of both label functions and of timetableref40.right. Plain facts on events and feeds: what is valid. No program in sight. Condition: none. timetableref40.right: its contract. Numbers as decimal texts: strconv.Itoa, both digits, the reference's digits and decimal at the widths that are used; the text of a date. -/
import Derived.Test.YtcomifbfldoeiaaGreatDoorQk4
import Derived.Test.YtcomifbfldoeiaaGreatDoorUnfoldAll
import Derived.RangeFuncNested
import Derived.RangeFuncBound
import Derived.RangeFuncCalls
import Derived.RangeFuncLeaves
import Derived.RangeFuncBox
import Derived.Shelf.Abstract
import Derived.Shelf.RegionOpen
import Derived.WalkKit
import Derived.OwnWalkIn
import Derived.TacticsInMore
import Derived.LoopNIn
import Derived.LoopIn
import Derived.Maps.AppendAt
import Derived.Test.YtcomifbfldoeiaaGreatDoorShelf
import Derived.Shelf.Sort.Plain
import Derived.Shelf.Slices.In.SortNone
import Derived.Test.YtcomifbfldoeiaaGreatDoorProg
import Derived.Sort.OwnSortedInts
import Derived.Lib.ItoaNum
import Derived.Lib.IndexMore
import Derived.Lib.IndexLaws
import Derived.Lib.IndexBytes
import Derived.Test.YtcomifbfldoeiaaGreatDoorQk3
import Derived.Test.YtcomifbfldoeiaaGreatDoorQk1
import Derived.Deep.RegionHeld3
import Derived.Lib.AppendIntMem
open Nat renaming le_refl->xa
open List renaming getElem?_eq_getElem->xb,eq_nil_of_length_eq_zero->xc,getElem?_eq_some_iff->xe,mem_singleton->xf,cons_append->xh,drop_eq_getElem_cons->xi,mem_of_getElem?->xj,length_append->xk,size_toArray->xl,append_assoc->xm,length_cons->xn,nil_append->xo,length_nil->xp,mem_cons->xq
open Array renaming getElem?_eq_some_iff->xd
open Go.World renaming ownsRow_nil->xg
set_option maxRecDepth 100000
set_option maxHeartbeats 40000000
-- SerD
namespace Go.Proofs.YtcomifbfldoeiaaGreatDoor
open Go.RowKit
theorem Ints.form {B : Nat} {w : World} {ao : Option Addr} {xs : List Int} (h : Ints B w ao xs) (hne : 0 < xs.length) :
  ∃ b o,ao = some ⟨b,o,none⟩ /\ b < B /\ ∀ (j : Nat) (x : Int),xs[j]? = some x -> w.cell? ⟨b,o + j,none⟩ = some (.int .i64 x):=by
 obtain ⟨⟨b,o,sp⟩,ha,hlt,hc⟩:=h 0 _ (xb hne);rw [Addr.add_zero'] at hc;have hsp : sp = none:=World.cell?_spot hc;subst hsp;refine ⟨b,o,ha,hlt,fun j x hx => ?_⟩;obtain ⟨a',ha',_,hc'⟩:=h j x hx;rw [ha] at ha';cases ha';rw [Addr.add_lit] at hc';exact hc'
-- DAYS
theorem valid145_any (s : Tt.Ser) (B : Nat) (w : World) (hn : s.ex.length <= 4611686018427387903) (hn2 : s.xt.length <= 4611686018427387903) (ao ao' : Option Addr) (c c' : Nat) (hB : B <= w.heap.size) (hI : Ints B w ao s.ex) (hI' : Ints B w ao' s.xt) :
  Calls Tryz.prog 157 #[serVal s (.slice ao s.ex.length c) (.slice ao' s.xt.length c')] w fun e w' => e = .returned (.int .i64 (Tt.serV s)) /\ Below w.heap.size w w':=by
 by_cases h : Tt.headV s = 0
 ·exact valid145_body s B w ((Tt.headV_zero s).1 h) ao ao' c c' hB hI hI'
 ·rw [Tt.serV_head s h];exact valid145_head s w h hn hn2 ao ao' c c'
theorem filter_snoc {α : Type} (f : α -> Bool) (l : List α) (x : α) : (l ++ [x]).filter f = l.filter f ++ (if f x = true then [x] else []):=by
 rw [List.filter_append];cases h : f x <;> simp [h]
theorem ownsRow_mono {w : World} {B B' : Nat} {e : TypeId} {size : Nat} {v : Value} {n : Nat} {xs : List Value} (h : w.ownsRow B e size v n xs) (hB : B' <= B) : w.ownsRow B' e size v n xs:=by
 refine ⟨h.1,?_⟩;rcases h.2 with h1 | ⟨g,cap,cur,r1,r2,r3⟩
 ·exact .inl h1
 ·exact .inr ⟨g,cap,cur,r1,by omega,r3⟩
theorem infoInt : (Tryz.prog.info? 3).map (fun i => (i.zero,i.size,i.bytes)) = some (some (.int .i64 0),1,8):=by kernel_rfl
end Go.Proofs.YtcomifbfldoeiaaGreatDoor
-- Many
namespace Go.Proofs.YtcomifbfldoeiaaGreatDoor
open Go.RowKit
structure SerG (s : Tt.Ser) : Prop where
 f0 : 0 <= s.first
 f1 : s.first <= 40000
 l1 : s.last <= 40000
 e0 : 1 <= s.every
 e1 : s.every <= 4
 w0 : 0 <= s.wd
 w1 : s.wd <= 127
 ex : s.ex.length <= 1000
 xt : s.xt.length <= 1000
theorem many153v (s : Tt.Ser) (w : World) (hs : SerG s) (ao ao' : Option Addr) (c c' : Nat) :
  Calls Tryz.prog 129 #[serVal s (.slice ao s.ex.length c) (.slice ao' s.xt.length c')] w fun e w' => e = .returned (.int .i64 (Tt.manyV s)) /\ Below w.heap.size w w':=by
 have S0 : SerAt w.heap.size s (.slice ao s.ex.length c) (.slice ao' s.xt.length c') (w.alloc (.cells #[.int .i64 s.first,.int .i64 s.last,.int .i64 s.every,.int .i64 s.wd,.slice ao s.ex.length c,.slice ao' s.xt.length c'] 102)):=heap_alloc_new w _;have HS0:=Lh S0;obtain ⟨f0,f1,l1,e0',e1',w0,w1,hx,hx'⟩:=hs;clear S0;unfold serVal;obtain ⟨ex,hex⟩ : ∃ n,n = s.ex.length:=⟨_,rfl⟩
 obtain ⟨xt,hxt⟩ : ∃ n,n = s.xt.length:=⟨_,rfl⟩
 rw [<- hex,<- hxt] at HS0 ⊢;rw [<- hex] at hx;rw [<- hxt] at hx';have HMU:=Lh (show ∀ d,(d = s.last + 1 ∨ d = s.first /\ s.last < d) -> Tt.manyV s = (xt : Int) - ex + Tt.upto s d from by rw [hex,hxt];exact Tt.many_upto s);clear hex hxt;go_enter Tryz.func129,Tryz.ntmps129;obtain ⟨e0,e1,e2,e3,e4,e5⟩:=HS0.out.cells;have hm0:=Int.emod_nonneg (s.first + 5) (show (7 : Int) ≠ 0 by omega);have hm1:=Int.emod_lt_of_pos (s.first + 5) (show (0 : Int) < 7 by omega);go_wp2_with fail;obtain ⟨M,hM⟩ : ∃ M,M = s.first - (s.first + 5) % 7:=⟨_,rfl⟩
 rw [<- hM];have hM0 : M <= s.first:=by omega
 have hM1 : s.first <= M + 6:=by omega
 have HM:=Lh hM;have HU0:=Lh (Tt.upto_start s);have HUL:=Lh (Tt.upto_le s);clear hM hm0 hm1 e0 e1 e2 e3 e4 e5;go_loopw [3,5] (fun nv dv wr => ∃ n d : Int,nv = .int .i64 n /\ dv = .int .i64 d /\ s.first <= d /\ d <= 40001 /\ -1000 <= n /\ n <= 1000 + (d - s.first) /\ Hid (n = (xt : Int) - ex + Tt.upto s d) /\ Hid (d = s.first ∨ d <= s.last + 1) /\ Below w.heap.size w wr /\ Hid (SerAt w.heap.size s (.slice ao ex c) (.slice ao' xt c') wr)) (fun _ dv _ => (40001 - intOf dv).toNat)
 case atStart => exact ⟨_,_,rfl,rfl,by omega,by omega,by omega,by omega,Lh (by rw [HU0.out];simp),Lh (.inl rfl),below_box _ _,HS0.out⟩
 case round =>
  obtain ⟨n,d,rfl,rfl,d0,d1,n0,n1,HN,HD,hbe,HS⟩:=hrel;obtain ⟨e0,e1,e2,e3,e4,e5⟩:=HS.out.cells;have hm0:=Int.emod_nonneg (d + 5) (show (7 : Int) ≠ 0 by omega);have hm1:=Int.emod_lt_of_pos (d + 5) (show (0 : Int) < 7 by omega);have hq0 : 0 <= (d - M) / 7:=by omega
  have hq1 : (d - M) / 7 <= 6000:=by omega
  have hz:=Int.emod_nonneg ((d - M) / 7) (show s.every ≠ 0 by omega);have hz1:=Int.emod_lt_of_pos ((d - M) / 7) (show 0 < s.every by omega);by_cases hle : d <= s.last
  ·have HRG:=Lh (show Tt.regB s d = ((bits .and .i64 (s.wd / 2 ^ ((d + 5) % 7).toNat) 1 == 1) && ((d - M) / 7 % s.every == 0)) from by rw [Tt.reg_of d0 hle,Tt.cnt_of HM.out d0,<- bit_is s.wd (Tt.wk d) w0 (by omega)];rfl);have HUS:=Lh (Tt.upto_step s d d0);cases hb1 : (bits .and .i64 (s.wd / 2 ^ ((d + 5) % 7).toNat) 1 == 1)
   ·have HRD:=Lh (show Tt.upto s (d + 1) = Tt.upto s d from by rw [HUS.out,if_neg (by rw [HRG.out,hb1];simp)];rfl);clear HRG HUS HMU HM;go_wp2_with fail;go_roundw
    case rel => exact ⟨_,d + 1,rfl,rfl,by omega,by omega,by omega,by omega,Lh (by have h1:=HRD.out;have h2:=HN.out;omega),Lh (.inr (by omega)),hbe,HS.out⟩
    case measure => simp [intOf];omega
   ·cases hq : ((d - M) / 7 % s.every == 0)
    ·have HRD:=Lh (show Tt.upto s (d + 1) = Tt.upto s d from by rw [HUS.out,if_neg (by rw [HRG.out,hb1,hq];simp)];rfl);clear HRG HUS HMU HM;go_wp2_with fail;go_roundw
     case rel => exact ⟨_,d + 1,rfl,rfl,by omega,by omega,by omega,by omega,Lh (by have h1:=HRD.out;have h2:=HN.out;omega),Lh (.inr (by omega)),hbe,HS.out⟩
     case measure => simp [intOf];omega
    ·have HRD:=Lh (show Tt.upto s (d + 1) = Tt.upto s d + 1 from by rw [HUS.out,if_pos (by rw [HRG.out,hb1,hq];rfl)]);clear HRG HUS HMU HM;go_wp2_with fail;go_roundw
     case rel => exact ⟨_,d + 1,rfl,rfl,by omega,by omega,by omega,by omega,Lh (by have h1:=HRD.out;have h2:=HN.out;omega),Lh (.inr (by omega)),hbe,HS.out⟩
     case measure => simp [intOf];omega
  ·have HE:=Lh (HMU.out d (by have:=HD.out;omega));go_wp2_with fail;go_ret;exact ⟨ret_int (by rw [HE.out,<- HN.out]),hbe⟩
end Go.Proofs.YtcomifbfldoeiaaGreatDoor
-- Days1
namespace Go.Proofs.YtcomifbfldoeiaaGreatDoor
open Go.RowKit Go.Shelf
theorem contains148 (B : Nat) (ao : Option Addr) (c : Nat) (xs : List Int) (x : Int) (w : World) (hI : Ints B w ao xs) (hn : xs.length <= 4611686018427387903) :
  Calls Tryz.prog 96 #[.slice ao xs.length c,.int .i64 x] w fun e w' => e = .returned (.bool (decide (x ∈ xs))) /\ w' = w:=by
 rcases Nat.eq_zero_or_pos xs.length with h0 | h0
 ·have : xs = []:=xc h0;subst this;refine (Tryz.slices_Contains_int_empty ao c x w).mono ?_;rintro e w' ⟨rfl,rfl⟩;exact ⟨ret_bool (by simp),rfl⟩
 ·obtain ⟨b,o,rfl,_,hc⟩:=hI.form h0;refine (Tryz.slices_Contains_int b o xs.length c xs x w (xa _) (by omega) (fun j hj => ?_)).mono ?_
  ·rw [hc j _ (xb hj)];simp [List.getD_eq_getElem?_getD,hj]
  ·rintro e w' ⟨rfl,rfl⟩;exact ⟨ret_bool (by rw [List.take_length];simp),rfl⟩
theorem clone146 (B : Nat) (ao : Option Addr) (c : Nat) (xs : List Int) (w : World) (hI : Ints B w ao xs) (hn : xs.length <= 1000000) :
  Calls Tryz.prog 158 #[.slice ao xs.length c] w fun e w' => ∃ v',e = .returned v' /\ w'.ownsRow w.heap.size 3 1 v' xs.length (xs.map (Value.int .i64)) /\ Below w.heap.size w w':=by
 rcases Nat.eq_zero_or_pos xs.length with h0 | h0
 ·have : xs = []:=xc h0;subst this;cases ao with
  | none =>
   refine (Tryz.slices_Clone_int_nil _ c w).mono ?_;rintro e w' ⟨rfl,rfl⟩;exact ⟨_,rfl,xg _ _ _ _,Below.refl _ _⟩
  | some a =>
   refine (Tryz.slices_Clone_int_zero a c w).mono ?_;rintro e w' ⟨v',rfl,h1,_,h2⟩;exact ⟨_,rfl,h1,h2⟩
 ·obtain ⟨b,o,rfl,_,hc⟩:=hI.form h0;refine (Tryz.slices_Clone_int b o xs.length c xs w (xa _) (by omega) (fun j hj => ?_)).mono ?_
  ·rw [hc j _ (xb hj)];simp [List.getD_eq_getElem?_getD,hj]
  ·rintro e w' ⟨v',rfl,h1,_,h2⟩;rw [List.take_length] at h1;exact ⟨_,rfl,h1,h2⟩
theorem regulars147 (s : Tt.Ser) (ao ao' : Option Addr) (n n' c c' : Nat) (w : World) :
  Calls Tryz.prog 159 #[serVal s (.slice ao n c) (.slice ao' n' c')] w fun e w' => e = .returned (.func (.func 218) #[] #[.pointer (some ⟨w.heap.size,0,none⟩)]) /\ w' = w.alloc (.cells #[.int .i64 s.first,.int .i64 s.last,.int .i64 s.every,.int .i64 s.wd,.slice ao n c,.slice ao' n' c'] 102):=by
 unfold serVal;go_enter Tryz.func159,Tryz.ntmps159;go_wp2_with fail;go_ret;exact ⟨rfl,rfl⟩
attribute [local go_sem] Oper.semAt_some
def regTo (s : Tt.Ser) (k : Nat) : List Int:=(Tt.daysFrom s.first k).filter (Tt.regB s)
theorem regTo_succ (s : Tt.Ser) (k : Nat) : regTo s (k + 1) = regTo s k ++ (if Tt.regB s (s.first + k) = true then [s.first + k] else []):=by
 unfold regTo;rw [Tt.daysFrom_snoc,filter_snoc]
theorem regTo_le (s : Tt.Ser) (k : Nat) : (regTo s k).length <= k:=by
 have:=List.length_filter_le (Tt.regB s) (Tt.daysFrom s.first k);rw [Tt.daysFrom_length] at this;exact this
def Kp0 (b : Nat) (W W' : World) : Prop:=W'.heap[b]? = W.heap[b]?
theorem below_grown {w w' : World} (h : Below w.heap.size w w') : w.grownBy w' none:=⟨h.os,h.tape,h.output,h.size,fun k hk _ => h.block k hk⟩
theorem regulars221 (n : Nat) (hn : 1 <= n) (l Bs : Nat) (s : Tt.Ser) (hh : Tt.Head s) (ao ao' : Option Addr) (m m' c c' : Nat) (J Jx : List Int -> World -> Prop)
  (W : World) (hJ : AbidesFrom W.heap.size J)
  (hY : ∀ pre x W,J pre W -> pre.length < 141 -> YieldAt Fence.wide (n - 1) Tryz.prog l #[.int .i64 x] W fun e W' =>
   (e = .returned (.bool true) /\ J (pre ++ [x]) W' /\ Kp0 Bs W W') ∨ (e = .returned (.bool false) /\ Jx (pre ++ [x]) W'))
  (hS : SerAt Bs s (.slice ao m c) (.slice ao' m' c') W) (h0 : J [] W) :
  CallsIn Fence.wide n Tryz.prog 218 #[.func (.yield l) #[] #[],.pointer (some ⟨Bs,0,none⟩)] W fun e W' => (∃ v,e = .returned v) /\
   ((∃ ys,ys = regTo s (s.last - s.first + 1).toNat /\ J ys W') ∨ (∃ pre,True /\ Jx pre W')):=by
 have hf : Tt.isD s.first = true:=(Tt.isD_iff _).2 ⟨hh.f0,hh.f1⟩;have hl : Tt.isD s.last = true:=(Tt.isD_iff _).2 ⟨hh.l0,hh.l1⟩;have R:=fun d W => regular220_any s d W hf hl hh.e0 hh.e1 hh.w0 hh.w1
 have HR:=Lh R;have HY:=Lh hY;have HJ:=Lh hJ;have HS:=Lh hS;obtain ⟨a1,a2,a3,a4,a5,a6,a7,a8,a9,a10,a11⟩:=hh;obtain ⟨e0,e1,e2,e3,e4,e5⟩:=hS.cells;clear hf hl R hY hJ hS;refine callsIn_of_wp Tryz.func218 rfl trivial ?_ rfl;simp only [Tryz.ntmps218,xl,xn,xp,Nat.reduceAdd,Nat.reduceSub,Array.replicate_succ,Array.replicate_zero,List.push_toArray,List.append_toArray,xo,xh];gi_wp2
 clear e0 e1 e2 e3 e4 e5;gi_loopw [3] (fun i wr => ∃ k : Nat,(k : Int) <= s.last - s.first + 1 /\ i = .int .i64 (s.first + k) /\ J (regTo s k) wr /\ Hid (Kp0 Bs W wr))
  (fun i _ => (s.last + 1 - intOf i).toNat)
 case atStart => exact ⟨0,by omega,by go_num,h0,(show Kp0 Bs W W from rfl)⟩
 case round =>
  obtain ⟨k,hk,rfl,hJs,hnx⟩:=hrel;have HA:=Lh (HS.out.block hnx.out);obtain ⟨e0,e1,e2,e3,e4,e5⟩:=HA.out.cells;have hsz:=HA.out.lt;by_cases hlt : s.first + k <= s.last
  ·have hkn : (regTo s k).length < 141:=by have:=regTo_le s k;omega
   have HT:=Lh (regTo_succ s k);gi_wp2_with fail
   refine ⟨trivial,?_⟩;refine (callsIn_wide.2 (HR.out (s.first + k) _ _ _ _ _ _ _)).mono ?_;rintro e w1 ⟨rfl,hb1⟩;have hJ1:=HJ.out _ _ _ none hJs (below_grown hb1) (fun r h => by cases h);have hnx1 : Hid (Kp0 Bs W w1):=(hb1.block _ hsz).trans hnx.out;have HA1:=Lh (HA.out.block (hb1.block _ hsz));clear e0 e1 e2 e3 e4 e5 hnx HA hb1 hsz hJs;obtain ⟨e0,e1,e2,e3,e4,e5⟩:=HA1.out.cells;cases hr : Tt.regB s (s.first + k)
   ·have HT1:=Lh (show regTo s (k + 1) = regTo s k by rw [HT.out,hr];simp);clear hr;gi_wp2_with fail;refine ⟨fun _ h => (by cases h),?_⟩;gi_wp2;go_roundw
    case rel => exact ⟨k + 1,by omega,by go_num,by rw [HT1.out];exact hJ1,hnx1.out⟩
    case measure => simp [intOf];omega
   ·have HT1:=Lh (show regTo s (k + 1) = regTo s k ++ [s.first + k] by rw [HT.out,hr];simp);clear hr;obtain ⟨fn,tmps,assign,body,hy,hRR⟩:=HY.out (regTo s k) (s.first + k) w1 hJ1 hkn;gi_wp2;refine hRR.mono ?_;rintro e W3 (⟨rfl,hJ3,hk3⟩ | ⟨rfl,hJx3⟩)
    ·have HA3:=Lh (HA1.out.block hk3);clear e0 e1 e2 e3 e4 e5 HA1;gi_wp2;go_roundw
     case rel => exact ⟨k + 1,by omega,by go_num,by rw [HT1.out];exact hJ3,(show Kp0 Bs W W3 from Eq.trans hk3 hnx1.out)⟩
     case measure => simp [intOf];omega
    ·gi_wp2
     refine bodyPost_ret (results_none rfl _ _ _) rfl ?_;exact ⟨⟨_,rfl⟩,.inr ⟨_,trivial,hJx3⟩⟩
  ·have hke : k = (s.last - s.first + 1).toNat:=by omega
   gi_wp2
   go_end0
   exact ⟨⟨_,rfl⟩,.inl (by rw [<- hke];exact hJs)⟩
end Go.Proofs.YtcomifbfldoeiaaGreatDoor
-- Sort
namespace Go.Proofs
open Go.Shelf
def Tryz.lays189_ren : Go.Shelf.Ren:=⟨fun | 189 => 160 | 125 => 145 | 257 => 219 | 128 => 211 | 129 => 212 | 294 => 270 | 295 => 271 | 296 => 272 | 297 => 273 | 298 => 274 | 299 => 275 | 216 => 276 | 300 => 277 | 301 => 278 | 328 => 310 | 329 => 262 | 330 => 263 | 331 => 311 | 332 => 312 | 215 => 258 | 343 => 333 | n => n,fun | 28 => 22 | 3 => 3 | 46 => 197 | 0 => 0 | 51 => 246 | 53 => 266 | 4 => 4 | 183 => 259 | 182 => 258 | 131 => 131 | 5 => 5 | 9 => 9 | 218 => 288 | 222 => 292 | 228 => 319 | 229 => 320 | n => n,fun | n => n⟩
theorem Tryz.lays189 : Go.Proofs.Lays.n189 Tryz.prog Tryz.lays189_ren:={
 mixed:=by kernel_rfl
 f125:=Tryz.func145.trans (congrArg some (by kernel_rfl))
 f128:=Tryz.func211.trans (congrArg some (by kernel_rfl))
 f129:=Tryz.func212.trans (congrArg some (by kernel_rfl))
 f189:=Tryz.func160.trans (congrArg some (by kernel_rfl))
 f215:=Tryz.func258.trans (congrArg some (by kernel_rfl))
 f216:=Tryz.func276.trans (congrArg some (by kernel_rfl))
 f257:=Tryz.func219.trans (congrArg some (by kernel_rfl))
 f294:=Tryz.func270.trans (congrArg some (by kernel_rfl))
 f295:=Tryz.func271.trans (congrArg some (by kernel_rfl))
 f296:=Tryz.func272.trans (congrArg some (by kernel_rfl))
 f297:=Tryz.func273.trans (congrArg some (by kernel_rfl))
 f298:=Tryz.func274.trans (congrArg some (by kernel_rfl))
 f299:=Tryz.func275.trans (congrArg some (by kernel_rfl))
 f300:=Tryz.func277.trans (congrArg some (by kernel_rfl))
 f301:=Tryz.func278.trans (congrArg some (by kernel_rfl))
 f328:=Tryz.func310.trans (congrArg some (by kernel_rfl))
 f329:=Tryz.func262.trans (congrArg some (by kernel_rfl))
 f330:=Tryz.func263.trans (congrArg some (by kernel_rfl))
 f331:=Tryz.func311.trans (congrArg some (by kernel_rfl))
 f332:=Tryz.func312.trans (congrArg some (by kernel_rfl))
 f343:=Tryz.func333.trans (congrArg some (by kernel_rfl))
 t0:=Tryz.underlying0
 a0:=Tryz.isAgg0
 z0:=Tryz.sizeOf0
 v0:=Tryz.zeroValue0
 t3:=Tryz.underlying3
 a3:=Tryz.isAgg3
 z3:=Tryz.sizeOf3
 v3:=Tryz.zeroValue3
 t4:=Tryz.underlying4
 a4:=Tryz.isAgg4
 z4:=Tryz.sizeOf4
 v4:=Tryz.zeroValue4
 t5:=Tryz.underlying5
 a5:=Tryz.isAgg5
 z5:=Tryz.sizeOf5
 v5:=Tryz.zeroValue5
 t9:=Tryz.underlying9
 a9:=Tryz.isAgg9
 z9:=Tryz.sizeOf9
 v9:=Tryz.zeroValue9
 t28:=Tryz.underlying22
 a28:=Tryz.isAgg22
 z28:=Tryz.sizeOf22
 v28:=Tryz.zeroValue22
 t46:=Tryz.underlying197
 a46:=Tryz.isAgg197
 z46:=Tryz.sizeOf197
 v46:=Tryz.zeroValue197
 t51:=Tryz.underlying246
 a51:=Tryz.isAgg246
 z51:=Tryz.sizeOf246
 v51:=Tryz.zeroValue246
 t53:=Tryz.underlying266
 a53:=Tryz.isAgg266
 z53:=Tryz.sizeOf266
 v53:=Tryz.zeroValue266
 t131:=Tryz.underlying131
 a131:=Tryz.isAgg131
 z131:=Tryz.sizeOf131
 v131:=Tryz.zeroValue131
 t182:=Tryz.underlying258
 a182:=Tryz.isAgg258
 z182:=Tryz.sizeOf258
 v182:=Tryz.zeroValue258
 t183:=Tryz.underlying259
 a183:=Tryz.isAgg259
 z183:=Tryz.sizeOf259
 v183:=Tryz.zeroValue259
 t218:=Tryz.underlying288
 a218:=Tryz.isAgg288
 z218:=Tryz.sizeOf288
 v218:=Tryz.zeroValue288
 t222:=Tryz.underlying292
 a222:=Tryz.isAgg292
 z222:=Tryz.sizeOf292
 v222:=Tryz.zeroValue292
 t228:=Tryz.underlying319
 a228:=Tryz.isAgg319
 z228:=Tryz.sizeOf319
 v228:=Tryz.zeroValue319
 t229:=Tryz.underlying320
 a229:=Tryz.isAgg320
 z229:=Tryz.sizeOf320
 v229:=Tryz.zeroValue320 }
open Go.Sort Go.RowKit in
theorem Tryz.slices_Sort_int (blk off cap : Nat) (zs : List Int) (w : World) (hH : Holds (Value.int .i64) w blk off zs.toArray) (hblk : blk < w.heap.size) (hsz : zs.length < 4611686018427387904) :
  Calls Tryz.prog 160 #[.slice (some ⟨blk,off,none⟩) zs.length cap] w fun e w' =>
   e = .returned (.tuple #[]) /\ ∃ n os,w' = grow (putRow (Value.int .i64) (Sort.ahead w n) blk off (zs.mergeSort fun x y => decide (x <= y)).toArray) os:=Any.slices_Sort_int Tryz.lays189 blk off cap zs w hH hblk hsz
open Go.RowKit Go.Sort in
theorem Tryz.slices_Sort_int_none (p : Option Addr) (cap : Nat) (w : World) :
  Calls Tryz.prog 160 #[.slice p 0 cap] w fun e w' => e = .returned (.tuple #[]) /\ w' = w:=Any.slices_Sort_int_none Tryz.lays189 p cap w
end Go.Proofs
-- Days2
namespace Go.Proofs.YtcomifbfldoeiaaGreatDoor
open Go.RowKit Go.Shelf
theorem sort149 (base : Nat) (v : Value) (zs : List Int) (w : World) (hown : w.ownsRow base 3 1 v zs.length (zs.map (Value.int .i64))) (hn : zs.length <= 1000000) :
  Calls Tryz.prog 160 #[v] w fun e w' => e = .returned (.tuple #[]) /\ w'.ownsRow base 3 1 v zs.length ((zs.mergeSort fun x y => decide (x <= y)).map (Value.int .i64)) /\ w.grownBy w' v.ownBlock:=by
 rcases hown.2 with ⟨rfl,h0⟩ | ⟨g,cap,cur,rfl,hg,hb,hc,hm,hcs,ht⟩
 ·have : zs = []:=xc h0;subst this;refine (Tryz.slices_Sort_int_none none 0 w).mono ?_;rintro e w' ⟨rfl,rfl⟩;exact ⟨rfl,by simpa using xg w' base 3 1,⟨rfl,rfl,rfl,xa _,fun _ _ _ => rfl⟩⟩
 ·have hlt : g < w.heap.size:=(xd.1 hb).1;refine (Tryz.slices_Sort_int g 0 cap zs w (holds_of_blockI hb (by simpa using ht)) hlt (by omega)).mono ?_;rintro e w' ⟨rfl,n,os,rfl⟩;exact ⟨rfl,ownsRow_sortedI (by simp) hg hb hc hm hcs,grownBy_sortedI _⟩
theorem ownsRow_slice {w : World} {B : Nat} {e : TypeId} {k : Nat} {v : Value} {n : Nat} {xs : List Value} (h : w.ownsRow B e k v n xs) : ∃ p m c,v = .slice p m c:=by
 rcases h.2 with ⟨rfl,_⟩ | ⟨g,cap,cur,rfl,_⟩
 ·exact ⟨_,_,_,rfl⟩
 ·exact ⟨_,_,_,rfl⟩
theorem serAt_own {β : Type} (b : Nat) (s : Tt.Ser) (v v' : Value) : Own (fun (_ : β) W => SerAt b s v v' W):=fun _ A B row hs hg hr =>
 (hg.block b hs.lt (fun e => by
  obtain ⟨o,ho,hc⟩:=hr b e.symm;rw [show A.heap[b]? = _ from hs] at ho;cases ho;cases hc)).trans hs
theorem kp_append {W w4 : World} {b B1 : Nat} {s : Tt.Ser} {u u' v v' : Value} {base n : Nat} {xs : List Value} {tmp : Obj} (hS : SerAt b s u u' W) (hrow : W.ownsRow base 3 1 v n xs) (hgrow : (W.alloc tmp).grownBy w4 v.ownBlock) (hne : b ≠ B1) : Kp0 b W (w4.setCell ⟨B1,0,none⟩ v'):=by
 show (w4.setCell ⟨B1,0,none⟩ v').heap[b]? = W.heap[b]?
 rw [Below.heap_setCell _ _ _ _ hne,hgrow.block b (by have:=hS.lt;simp;omega) ?_,Lib.alloc_old W _ b hS.lt];intro e;rcases hrow.2 with ⟨rfl,_⟩ | ⟨g,cap,cur,rfl,_,hgb,_⟩
 ·cases e
 ·simp only [Value.ownBlock,Option.some.injEq] at e;subst e;have:=(show W.heap[b]? = _ from hS).symm.trans hgb;simp at this
theorem def_row {W : World} {D : Nat} {v : Value} {base n : Nat} {xs : List Value} {ds : Option (List Deferred)} (hrow : W.ownsRow base 3 1 v n xs) (hK : W.heap[D]? = some (.deferred ds)) : some D ≠ v.ownBlock:=by
 intro e;rcases hrow.2 with ⟨rfl,_⟩ | ⟨g,cap,cur,rfl,_,hgb,_⟩
 ·cases e
 ·simp only [Value.ownBlock,Option.some.injEq] at e;subst e;rw [hK] at hgb;cases hgb
def gath (s : Tt.Ser) (pre : List Int) : List Int:=s.xt ++ pre.filter fun d => !decide (d ∈ s.ex)
theorem gath_snoc (s : Tt.Ser) (pre : List Int) (d : Int) : gath s (pre ++ [d]) = gath s pre ++ (if (!decide (d ∈ s.ex)) = true then [d] else []):=by
 unfold gath;rw [filter_snoc,xm]
theorem gath_le (s : Tt.Ser) (pre : List Int) : (gath s pre).length <= s.xt.length + pre.length:=by
 unfold gath;rw [xk];have:=List.length_filter_le (fun d => !decide (d ∈ s.ex)) pre;omega
theorem gath_all (s : Tt.Ser) : gath s (regTo s (s.last - s.first + 1).toNat) = s.xt ++ (Tt.span s).filter fun d => Tt.regB s d && !decide (d ∈ s.ex):=by
 unfold gath regTo Tt.span;rw [List.filter_filter];congr 2
 funext d
 exact Bool.and_comm _ _
attribute [local go_sem] Oper.semAt_some
theorem days74_ok (s : Tt.Ser) (B : Nat) (w : World) (hv : Tt.serV s = 0) (ao ao' : Option Addr) (c c' : Nat) (hB : B <= w.heap.size) (hI : Ints B w ao s.ex) (hI' : Ints B w ao' s.xt) :
  Calls Tryz.prog 97 #[serVal s (.slice ao s.ex.length c) (.slice ao' s.xt.length c')] w fun e w' => ∃ v,e = .returned v /\ w'.ownsRow w.heap.size 3 1 v (Tt.serDays s).length ((Tt.serDays s).map (Value.int .i64)) /\ Below w.heap.size w w':=by
 obtain ⟨i0,hi,hz0,hz1,hz2⟩:=info_parts infoInt;obtain ⟨hh,_,_⟩:=(Tt.serV_zero s).1 hv;have hn:=hh.n;have S0 : SerAt w.heap.size s (.slice ao s.ex.length c) (.slice ao' s.xt.length c') (w.alloc (.cells #[.int .i64 s.first,.int .i64 s.last,.int .i64 s.every,.int .i64 s.wd,.slice ao s.ex.length c,.slice ao' s.xt.length c'] 102)):=heap_alloc_new w _;have HS0:=Lh S0;have HV:=Lh (valid145_any s B (w.alloc (.cells #[.int .i64 s.first,.int .i64 s.last,.int .i64 s.every,.int .i64 s.wd,.slice ao s.ex.length c,.slice ao' s.xt.length c'] 102)) (by omega) (by omega) ao ao' c c' (by simp;omega) (hI.below ((below_box w _).mono hB)) (hI'.below ((below_box w _).mono hB)));have hBB:=hB;have HI:=Lh hI;have HI':=Lh hI';have HH:=Lh hh;have HVV:=Lh hv;clear hI hI' S0 hh hv;unfold serVal at HV ⊢;refine (callsIn_wide (n:=5)).1 ?_;refine callsIn_of_wp_marks Tryz.func97 rfl trivial ?_ rfl;simp only [Tryz.ntmps97,xl,xn,xp,Nat.reduceAdd,Nat.reduceSub,Array.replicate_succ,Array.replicate_zero,List.push_toArray,List.append_toArray,xo,xh];gi_wp2_with fail
 refine ⟨trivial,?_⟩;refine (callsIn_wide.2 HV.out).mono ?_;rintro e w1 ⟨rfl,hb1⟩;rw [HVV.out];have hbe1:=below_then (below_box w _) hb1;have HA1:=Lh (HS0.out.block (hb1.block _ HS0.out.lt));clear HV hb1;obtain ⟨e0,e1,e2,e3,e4,e5⟩:=HA1.out.cells;have hsz1:=HA1.out.lt;gi_wp2_with fail;refine ⟨trivial,?_⟩;refine (callsIn_wide.2 (clone146 B ao' c' s.xt w1 (HI'.out.below (hbe1.mono hB)) (by omega))).mono ?_;rintro e w2 ⟨x,rfl,hown2,hb2⟩;obtain ⟨q1,q2,q3,hx⟩:=ownsRow_slice hown2;subst hx;have hbe2:=below_then hbe1 hb2;have HA2:=Lh (HA1.out.block (hb2.block _ hsz1));have hs12:=hb2.size;clear e0 e1 e2 e3 e4 e5;obtain ⟨e0,e1,e2,e3,e4,e5⟩:=HA2.out.cells;have hsz2:=HA2.out.lt;gi_wp2_with fail;refine ⟨trivial,?_⟩;refine (callsIn_wide.2 (regulars147 s ao ao' s.ex.length s.xt.length c c' _)).mono ?_;rintro e w3 ⟨rfl,hw⟩;rw [hw];clear hw w3;gi_wp2_with fail;obtain ⟨W0,hW0⟩ : ∃ W0,W0 = ((w2.alloc (.cells #[.slice q1 q2 q3] 22)).alloc (.cells #[.int .i64 s.first,.int .i64 s.last,.int .i64 s.every,.int .i64 s.wd,.slice ao s.ex.length c,.slice ao' s.xt.length c'] 102)):=⟨_,rfl⟩
 obtain ⟨B1,hB1⟩ : ∃ B1,B1 = w2.heap.size:=⟨_,rfl⟩
 have hzq : W0.heap.size = B1 + 2:=by rw [hW0,hB1];simp
 have HZ:=Lh hzq;have bO : Boxed W0 B1 22 (.slice q1 q2 q3):=by rw [hW0,hB1];exact (Boxed.new w2 22 _).alloc _
 have S2 : SerAt (B1 + 1) s (.slice ao s.ex.length c) (.slice ao' s.xt.length c') W0:=by
  rw [hW0,hB1];have:=heap_alloc_new (w2.alloc (.cells #[.slice q1 q2 q3] 22)) (.cells #[.int .i64 s.first,.int .i64 s.last,.int .i64 s.every,.int .i64 s.wd,.slice ao s.ex.length c,.slice ao' s.xt.length c'] 102);simpa [SerAt] using this
 have hbw : Below w1.heap.size w2 W0:=by rw [hW0];exact ((Below.refl _ w2).alloc (by omega) _).alloc (by simp;omega) _
 have hown0 : W0.ownsRow w1.heap.size 3 1 (.slice q1 q2 q3) s.xt.length (s.xt.map (Value.int .i64)):=by rw [hW0];exact (hown2.alloc _).alloc _
 have hbw1:=hb2.trans hbw;have hB1w : w1.heap.size <= B1:=by rw [hB1];exact hs12
 rw [<- hW0,<- hB1];clear hW0 hB1 e0 e1 e2 e3 e4 e5 HA2 hown2 hbw hzq hb2;have hzw : B1 + 2 <= W0.heap.size:=by rw [HZ.out];exact xa _
 refine wpIn_rangeFunc_ownG rfl (by decide) (gf:=218) (lb:=#[.pointer (some ⟨B1 + 1,0,none⟩)]) rfl trivial (enters_of Tryz.func218 (by kernel_rfl) rfl)
  (encs:=fun x : Int => #[Value.int .i64 x]) (Kp:=Kp0 (B1 + 1)) (S:=fun ys => ys = regTo s (s.last - s.first + 1).toNat) (Sp:=fun _ => True) (N:=141) (w0:=W0)
  (fun l J Jx W hW hJ hJx hY h0 => regulars221 4 (by decide) l (B1 + 1) s HH.out ao ao' _ _ c c' J Jx W hJ hY (S2.block (hW.block _ S2.lt)) h0)
  (fun h k => Eq.trans k h) (fun W l o o' hl h _ _ => ?kb) (Below.refl _ _) (fun _ => rfl)
  (fun pre W => (∃ v,Boxed W B1 22 v /\ W.ownsRow w1.heap.size 3 1 v (gath s pre).length ((gath s pre).map (Value.int .i64)) /\ True) /\ SerAt (B1 + 1) s (.slice ao s.ex.length c) (.slice ao' s.xt.length c') W /\ Below w1.heap.size w1 W)
  (fun _ _ _ => False)
  (OwnFrom.and (Own.from (holdsRow_own w1.heap.size B1 22 3 1 (fun pre => (gath s pre).length) (fun pre => (gath s pre).map (Value.int .i64)) (fun _ _ => True)) _) (OwnFrom.and (Own.from (serAt_own _ _ _ _) _) (ownFrom_below (xa _) (by omega))))
  (fun _ _ _ _ _ hs _ _ => hs)
  ⟨⟨_,bO,by simpa [gath] using hown0,trivial⟩,S2,?be0⟩
  (fun x => { tmps:=#[.agg #[.int .i64 s.first,.int .i64 s.last,.int .i64 s.every,.int .i64 s.wd,.slice ao s.ex.length c,.slice ao' s.xt.length c'],.pointer (some ⟨w.heap.size,0,none⟩),.slice none 0 0,.pointer (some ⟨B1,0,none⟩),.int .i64 x,.agg #[.int .i64 s.first,.int .i64 s.last,.int .i64 s.every,.int .i64 s.wd,.slice ao s.ex.length c,.slice ao' s.xt.length c'],.int .i64 0,.bool false,.pointer (some ⟨w.heap.size,5,none⟩),.slice ao' s.xt.length c',.slice q1 q2 q3,.agg #[.int .i64 s.first,.int .i64 s.last,.int .i64 s.every,.int .i64 s.wd,.slice ao s.ex.length c,.slice ao' s.xt.length c'],.func (.func 218) #[] #[.pointer (some ⟨B1 + 1,0,none⟩)],.int .i64 x,undef,undef,undef,undef,undef,undef,undef,undef,undef,undef,undef,undef],defers:=[] }) ?assign ?body ?done ?stop
 case kb =>
  exact (grownBy_putObj' W l o').block (B1 + 1) (by have:=(xd.1 h).1;omega) (by simp;omega)
 case be0 => exact hbw1
 case assign =>
  intro l x W K hK;gi_wp2;exact hK
 case body =>
  rintro l pre x W ⟨⟨v,hv,hrow,_⟩,S2W,hB⟩ hlt;have S2H:=Lh S2W;clear S2W;have hc:=hv.cell;have HAW:=Lh (HA1.out.block (hB.block _ hsz1));obtain ⟨e0,e1,e2,e3,e4,e5⟩:=HAW.out.cells;have hpl:=gath_le s pre;have HG:=Lh (gath_snoc s pre x);have hbW:=hbe1.trans (hB.mono (by omega));have hWs:=hB.size;gi_wp2_with fail;refine ⟨trivial,?_⟩;refine (CallsIn.inRound l (callsIn_wide.2 (contains148 B ao c s.ex x W (HI.out.below (hbW.mono hBB)) (by omega)))).mono ?_;rintro e w3 ⟨rfl,hw⟩;rw [hw];clear hw w3;cases hd : decide (x ∈ s.ex)
  ·have HG1:=Lh (show gath s (pre ++ [x]) = gath s pre ++ [x] by rw [HG.out,hd];rfl);clear hd;gi_wp2_with (gi_at_builtin;refine wpListIn_append_own _ rfl _ _ 22 rfl w1.heap.size 3 i0 (.int .i64 0) 1 8 Tryz.underlying22 hi hz0 hz1 hz2 rfl (by decide) _ _ _ rfl (hrow.alloc _) ⟨W.heap.size,0,none⟩ 1 1 [.int .i64 x] rfl rfl (cell_one_new _ _ _) (by simp [Value.oneCell']) (by unfold maxLen;omega) (by omega) (by simp;omega) ?_);intro v' w4 hown' hgrow _;obtain ⟨g',cap',rfl⟩:=ownsRow_succ hown';obtain ⟨hv1,hv2,hr2,hk2,hb2⟩:=hv.appended (by decide) hrow hWs hB1w hown' hgrow;have hc1:=hv1.cell;have hf1:=hv1.frozen;gi_wp2_with fail;exact ⟨hk2.from _,kp_append S2H.out hrow hgrow (by omega),⟨_,hv2,by rw [HG1.out];simpa using hr2,trivial⟩,SerAt.block S2H.out (kp_append S2H.out hrow hgrow (by omega)),hB.trans hb2⟩
  ·have HG1:=Lh (show gath s (pre ++ [x]) = gath s pre by rw [HG.out,hd];simp);clear hd;gi_wp2_with fail;exact ⟨KeepsFrom.refl _ _,rfl,⟨v,hv,by rw [HG1.out];exact hrow,trivial⟩,S2H.out,hB⟩
 case done =>
  rintro D ys W hD hys ⟨⟨v,hv,hrow,_⟩,_,hB⟩ hK;have hc:=hv.cell;have hgl:=gath_le s ys;have hyl : ys.length <= 141:=by rw [hys];have:=regTo_le s (s.last - s.first + 1).toNat;have:=HH.out.lf;omega
  gi_wp2_with fail
  refine ⟨trivial,?_⟩;refine (callsIn_wide.2 (sort149 w1.heap.size v (gath s ys) W hrow (by omega))).mono ?_;rintro e w3 ⟨rfl,hrow3,hg3⟩;have hv3:=hv.kept hg3 (hv.not_row (by decide) hrow);have hc3:=hv3.cell;have hK3 : w3.heap[D]? = some (.deferred (some [])):=(hg3.block D (xd.1 hK).1 (def_row hrow hK)).trans hK;have hB3 : Below w1.heap.size w1 w3:=hB.grown hg3 hB.size (fun k e => (hrow.lt k e).1);have HS:=Lh (show (gath s ys).mergeSort (fun x y => decide (x <= y)) = Tt.serDays s from by
   refine Tt.serDays_of s HVV.out _ ?_ ?_
   ·have:=List.pairwise_mergeSort (le:=fun x y : Int => decide (x <= y)) (fun a b c h1 h2 => by simp at *;omega) (fun a b => by simp;omega) (gath s ys);exact this.imp (fun h => by simpa using h)
   ·rw [<- gath_all,<- hys];exact List.mergeSort_perm _ _)
  rw [HS.out] at hrow3;have HLEN:=Lh (show (gath s ys).length = (Tt.serDays s).length by rw [<- HS.out];simp);rw [HLEN.out] at hrow3;clear hc;gi_wp2_with fail;refine ⟨by simp,.inl ⟨_,_,rfl,run_takeDeferred hK3,?_⟩⟩;exact ⟨_,results_tmp rfl _ _ _,v,rfl,ownsRow_mono (ownsRow_putObj hrow3 _ hK3 rfl) (by omega),hbe1.trans ((hB3.mono (by omega)).trans (belowK_b (w:=w) (xa _) w3 D _ _ (by omega) hK3 rfl rfl))⟩
 case stop =>
  rintro D c pre W _ _ h _;exact h.elim
theorem days74 (s : Tt.Ser) (B : Nat) (w : World) (hn : s.ex.length <= 4611686018427387903) (hn2 : s.xt.length <= 4611686018427387903) (ao ao' : Option Addr) (c c' : Nat) (hB : B <= w.heap.size) (hI : Ints B w ao s.ex) (hI' : Ints B w ao' s.xt) :
  Calls Tryz.prog 97 #[serVal s (.slice ao s.ex.length c) (.slice ao' s.xt.length c')] w fun e w' => ∃ v,e = .returned v /\ w'.ownsRow w.heap.size 3 1 v (Tt.serDays s).length ((Tt.serDays s).map (Value.int .i64)) /\ Below w.heap.size w w':=by
 by_cases hv : Tt.serV s = 0
 ·exact days74_ok s B w hv ao ao' c c' hB hI hI'
 ·have HV:=Lh (valid145_any s B (w.alloc (.cells #[.int .i64 s.first,.int .i64 s.last,.int .i64 s.every,.int .i64 s.wd,.slice ao s.ex.length c,.slice ao' s.xt.length c'] 102)) hn hn2 ao ao' c c' (by simp;omega) (hI.below ((below_box w _).mono hB)) (hI'.below ((below_box w _).mono hB)));have HVV:=Lh (show (Tt.serV s != 0) = true by simp [hv]);have HD:=Lh (show Tt.serDays s = [] by unfold Tt.serDays;rw [if_pos hv]);clear hv hI hI';unfold serVal at HV ⊢;go_enter Tryz.func97,Tryz.ntmps97;go_wp2_with fail;refine HV.out.mono ?_;rintro e w0 ⟨rfl,hb0⟩;have hbe0:=below_then (below_box w _) hb0;have hvv:=HVV.out;clear HV hb0;go_wp2_with fail;refine bodyPost_ret (v:=.slice none 0 0) (by simp [results,Tryz.results97,go_sem]) rfl ?_;refine ⟨_,rfl,?_,hbe0⟩;rw [HD.out];exact xg _ _ _ _
end Go.Proofs.YtcomifbfldoeiaaGreatDoor
-- Uid
namespace Tt
open Go.Lib (decDigits cut index indexByte)
theorem decDigits_digit : ∀ (k n : Nat),n <= k -> ∀ c ∈ decDigits n,48 <= c.toNat /\ c.toNat <= 57
 | 0,n,h,c,hc => by
  rw [Go.Lib.decDigits_one (by omega),xf] at hc;subst hc;rw [show n = 0 by omega];decide
 | k + 1,n,h,c,hc => by
  rw [decDigits.eq_def] at hc;split at hc
  ·rename_i h2
   rw [xf] at hc;subst hc;rw [UInt8.toNat_ofNat_of_lt' (show 48 + n < UInt8.size by show 48 + n < 256;omega)];omega
  ·rename_i h2
   rcases List.mem_append.1 hc with h3 | h3
   ·exact decDigits_digit k (n / 10) (by omega) c h3
   ·rw [xf] at h3;subst h3;have : n % 10 < 10:=Nat.mod_lt _ (by decide);rw [UInt8.toNat_ofNat_of_lt' (show 48 + n % 10 < UInt8.size by show 48 + n % 10 < 256;omega)];omega
def numFrom (n : List UInt8) (w : Nat) : Bool:=decide (∃ j : Nat,j < 21 /\ w <= j /\ n = decDigits j)
theorem numFrom_end (n : List UInt8) : numFrom n 21 = false:=by
 unfold numFrom;rw [decide_eq_false_iff_not];rintro ⟨j,h1,h2,_⟩;omega
theorem numFrom_hit (n : List UInt8) (w : Nat) (h1 : w <= 20) (h : n = decDigits w) : numFrom n w = true:=by
 unfold numFrom;rw [decide_eq_true_iff];exact ⟨w,by omega,xa _,h⟩
theorem numFrom_step (n : List UInt8) (w : Nat) (h : n ≠ decDigits w) : numFrom n w = numFrom n (w + 1):=by
 unfold numFrom;congr 1
 apply propext
 constructor
 ·rintro ⟨j,h1,h2,h3⟩;rcases Nat.lt_or_ge w j with h4 | h4
  ·exact ⟨j,h1,h4,h3⟩
  ·obtain rfl : w = j:=by omega
   exact absurd h3 h
 ·rintro ⟨j,h1,h2,h3⟩;exact ⟨j,h1,by omega,h3⟩
theorem numFrom_no (n : List UInt8) (w : Nat) (h : numFrom n w = true) : (64 : UInt8) ∉ n:=by
 unfold numFrom at h;rw [decide_eq_true_iff] at h;obtain ⟨j,_,_,rfl⟩:=h;intro h64;have:=decDigits_digit j j (xa _) _ h64;have h2 : (64 : UInt8).toNat = 64:=rfl;omega
theorem cut_none (l : List UInt8) (h : (64 : UInt8) ∉ l) : cut l [64] = (l,[],false):=by
 unfold Go.Lib.cut;rw [Go.Lib.index_one];by_cases h0 : 0 <= indexByte l 64
 ·obtain ⟨o,ho⟩ : ∃ o : Nat,indexByte l 64 = o:=⟨(indexByte l 64).toNat,by omega⟩
  exact absurd (xj (Go.Lib.indexByte_some ho).1) h
 ·rw [if_neg h0]
theorem cut_first (a b : List UInt8) (h : (64 : UInt8) ∉ a) : cut (a ++ 64 :: b) [64] = (a,b,true):=by
 unfold Go.Lib.cut;rw [Go.Lib.index_one];have hg : (a ++ 64 :: b)[a.length]? = some 64:=by simp
 by_cases h0 : 0 <= indexByte (a ++ 64 :: b) 64
 ·obtain ⟨o,ho⟩ : ∃ o : Nat,indexByte (a ++ 64 :: b) 64 = o:=⟨(indexByte (a ++ 64 :: b) 64).toNat,by omega⟩
  obtain ⟨h1,h2⟩:=Go.Lib.indexByte_some ho;have : o = a.length:=by
   rcases Nat.lt_trichotomy o a.length with h3 | h3 | h3
   ·rw [List.getElem?_append_left h3] at h1;exact absurd (xj h1) h
   ·exact h3
   ·exact absurd hg (h2 _ h3)
  rw [if_pos h0,ho,this];simp
 ·exact absurd hg (Go.Lib.indexByte_none (by have:=Go.Lib.indexByte_ge (a ++ 64 :: b) 64;omega) _)
def rightP (p : List UInt8 -> Bool) (l : List UInt8) : Bool:=(cut l [64]).2.2 && p (cut l [64]).1 && numFrom (cut l [64]).2.1 1
theorem rightP_none (p : List UInt8 -> Bool) (l : List UInt8) (h : (64 : UInt8) ∉ l) : rightP p l = false:=by
 unfold rightP;rw [cut_none l h];rfl
theorem first_split : ∀ (a : List UInt8),(64 : UInt8) ∈ a -> ∃ a1 a2,a = a1 ++ 64 :: a2 /\ (64 : UInt8) ∉ a1
 | [],h => by cases h
 | c :: t,h => by
  by_cases hc : c = 64
  ·subst hc;exact ⟨[],t,rfl,by simp⟩
  ·rcases xq.1 h with e | e
   ·exact absurd e.symm hc
   ·obtain ⟨a1,a2,h1,h2⟩:=first_split t e;exact ⟨c :: a1,a2,by rw [h1];rfl,by simp [Ne.symm hc,h2]⟩
theorem rightP_last (p : List UInt8 -> Bool) (hp : ∀ a,p a = true -> (64 : UInt8) ∉ a) (a b : List UInt8) : rightP p (a ++ 64 :: b) = (p a && numFrom b 1):=by
 by_cases ha : (64 : UInt8) ∈ a
 ·obtain ⟨a1,a2,rfl,h1⟩:=first_split a ha;have h2 : p (a1 ++ 64 :: a2) = false:=by
   cases h : p (a1 ++ 64 :: a2) with
   | false => rfl
   | true => exact absurd (by simp) (hp _ h)
  have h3 : numFrom (a2 ++ 64 :: b) 1 = false:=by
   cases h : numFrom (a2 ++ 64 :: b) 1 with
   | false => rfl
   | true => exact absurd (by simp) (numFrom_no _ _ h)
  unfold rightP;rw [xm,xh,cut_first _ _ h1,h2];simp [h3]
 ·unfold rightP;rw [cut_first _ _ ha];simp
end Tt
-- UidW
namespace Go.Proofs.YtcomifbfldoeiaaGreatDoor
open Go.RowKit
theorem code_no_at (a : List UInt8) (h : Tt.code a = true) : (64 : UInt8) ∉ a:=by
 intro hm;cases a with
 | nil => cases hm
 | cons c t =>
  unfold Tt.code at h;simp only [Bool.and_eq_true] at h;obtain ⟨⟨_,h1⟩,h2⟩:=h;rcases xq.1 hm with e | e
  ·subst e;exact absurd h1 (by decide)
  ·unfold Tt.codeTail at h2;have:=List.all_eq_true.1 h2 64 e;exact absurd this (by decide)
def rightB (l : List UInt8) : Bool:=Tt.rightP Tt.code l
theorem of_data {s : ByteArray} {l : List UInt8} (h : s.data.toList = l) : s = ⟨l.toArray⟩:=by rw [<- h,Lib.mk_data]
theorem cut248 (s : ByteArray) (w : World) (hs : s.size <= 4611686018427387904) :
  Calls Tryz.prog 252 #[.string s,.string ⟨#[64]⟩] w fun e w' => e = .returned (.tuple #[.string ⟨(Lib.cut s.data.toList [64]).1.toArray⟩,.string ⟨(Lib.cut s.data.toList [64]).2.1.toArray⟩,.bool (Lib.cut s.data.toList [64]).2.2]) /\ ∃ n,w' = w.drewN n:=by
 have HI:=Lh (show Lib.index s.data.toList [64] = Lib.indexByte s.data.toList 64 from Lib.index_one _ _);have hge:=Lib.indexByte_ge s.data.toList 64;by_cases h0 : 0 <= Lib.indexByte s.data.toList 64
 ·obtain ⟨o,ho⟩ : ∃ o : Nat,Lib.indexByte s.data.toList 64 = o:=⟨(Lib.indexByte s.data.toList 64).toNat,by omega⟩
  have hlt : o < s.size:=by
   have:=xe.1 (Lib.indexByte_some ho).1;rw [Lib.size_eq];exact this.1
  have HC:=Lh (show Lib.cut s.data.toList [64] = (s.data.toList.take o,s.data.toList.drop (o + 1),true) by
   unfold Lib.cut;rw [HI.out,if_pos h0,ho];rfl)
  have HO:=Lh ho;have HE1:=Lh (of_data (Lib.extract_from_zero s o));have HE2:=Lh (of_data (Lib.extract_to_end s (o + 1)));clear h0 hge ho HI;go_enter Tryz.func252,Tryz.ntmps252;go_wp2_with fail;refine (Tryz.stringslite_Index_one s 64 _).mono ?_;rintro e w1 ⟨rfl,hw⟩;rw [hw,HO.out];clear hw w1;have g1 : (0 : Int) <= (o : Int):=by omega
  have g2 : (o : Int) <= (s.size : Int):=by omega
  have g3 : IntKind.i64.wrap ((o : Int) + 1) = (o : Int) + 1:=by rw [IntKind.wrap_i64];omega
  have g4 : ((o : Int) + 1).toNat = o + 1:=by omega
  have g5 : (o : Int) + 1 <= (s.size : Int):=by omega
  have g6 : (0 : Int) <= (o : Int) + 1:=by omega
  go_wp2_with fail;go_quiet (fail)
  clear g1 g2 g3 g4 g5 g6;go_wp2_with fail;refine bodyPost_ret (v:=.tuple #[.string (s.extract 0 o),.string (s.extract (o + 1) s.size),.bool true]) (by simp [results,Tryz.results252,go_sem]) rfl ?_;refine ⟨?_,_,rfl⟩;rw [HC.out,HE1.out,HE2.out]
 ·have HC:=Lh (show Lib.cut s.data.toList [64] = (s.data.toList,[],false) by
   unfold Lib.cut;rw [HI.out,if_neg h0])
  have HO:=Lh (show Lib.indexByte s.data.toList 64 = -1 by omega);clear h0 hge HI;go_enter Tryz.func252,Tryz.ntmps252;go_wp2_with fail;refine (Tryz.stringslite_Index_one s 64 _).mono ?_;rintro e w1 ⟨rfl,hw⟩;rw [hw,HO.out];clear hw w1;go_wp2_with fail;refine bodyPost_ret (v:=.tuple #[.string s,.string ⟨#[]⟩,.bool false]) (by simp [results,Tryz.results252,go_sem]) rfl ?_;refine ⟨?_,0,rfl⟩;rw [HC.out,Lib.mk_data]
theorem cut166 (s : ByteArray) (w : World) (hs : s.size <= 4611686018427387904) :
  Calls Tryz.prog 192 #[.string s,.string ⟨#[64]⟩] w fun e w' => e = .returned (.tuple #[.string ⟨(Lib.cut s.data.toList [64]).1.toArray⟩,.string ⟨(Lib.cut s.data.toList [64]).2.1.toArray⟩,.bool (Lib.cut s.data.toList [64]).2.2]) /\ ∃ n,w' = w.drewN n:=by
 go_enter Tryz.func192,Tryz.ntmps192;go_wp2_with fail;refine (cut248 s w hs).mono ?_;rintro e w1 ⟨rfl,n,hw⟩;rw [hw];clear hw w1;go_wp2_with fail;exact bodyPost_ret (v:=.tuple #[.string ⟨(Lib.cut s.data.toList [64]).1.toArray⟩,.string ⟨(Lib.cut s.data.toList [64]).2.1.toArray⟩,.bool (Lib.cut s.data.toList [64]).2.2]) (by simp [results,Tryz.results192,go_sem]) rfl ⟨rfl,_,rfl⟩
theorem right95 (s : ByteArray) (w : World) (hs : s.size <= 4611686018427387904) :
  Calls Tryz.prog 130 #[.string s] w fun e w' => e = .returned (.bool (rightB s.data.toList)) /\ Below w.heap.size w w':=by
 have HC:=Lh (cut166 s w hs);have HR:=Lh (show rightB s.data.toList = ((Lib.cut s.data.toList [64]).2.2 && Tt.code (Lib.cut s.data.toList [64]).1 && Tt.numFrom (Lib.cut s.data.toList [64]).2.1 1) from rfl);obtain ⟨a,ha⟩ : ∃ a,a = (Lib.cut s.data.toList [64]).1:=⟨_,rfl⟩
 obtain ⟨b,hb⟩ : ∃ b,b = (Lib.cut s.data.toList [64]).2.1:=⟨_,rfl⟩
 obtain ⟨f,hf⟩ : ∃ f,f = (Lib.cut s.data.toList [64]).2.2:=⟨_,rfl⟩
 have HA:=Lh ha;have HB:=Lh hb;have HF:=Lh hf;rw [<- ha,<- hb,<- hf] at HR;clear ha hb hf;go_enter Tryz.func130,Tryz.ntmps130;go_wp2_with fail;refine HC.out.mono ?_;rintro e w1 ⟨rfl,q,hw⟩;rw [hw];clear hw w1;rw [<- HA.out,<- HB.out,<- HF.out];cases hf : f
 ·have HE:=Lh (show rightB s.data.toList = false by rw [HR.out,hf];rfl);go_wp2_with fail;go_ret;exact ⟨ret_bool HE.out.symm,below_drew (Below.refl _ _)⟩
 ·go_wp2_with fail;refine (code_any ⟨a.toArray⟩ _).mono ?_;rintro e w1 ⟨rfl,hw⟩;rw [hw];clear hw w1;rw [show (⟨a.toArray⟩ : ByteArray).data.toList = a from rfl];cases hc : Tt.code a
  ·have HE:=Lh (show rightB s.data.toList = false by rw [HR.out,hf,hc];rfl);clear hf hc;go_wp2_with fail;go_ret;exact ⟨ret_bool HE.out.symm,below_drew (Below.refl _ _)⟩
  ·have HE:=Lh (show rightB s.data.toList = Tt.numFrom b 1 by rw [HR.out,hf,hc];rfl);clear hf hc;go_wp2_with fail;obtain ⟨w2,hw2,hB2,_,_⟩:=redrew w q;have hbe:=hB2 w.heap.size;rw [<- hw2];clear hw2 hB2;go_loopw [6] (fun iv wr => ∃ k : Nat,iv = .int .i64 k /\ 1 <= k /\ k <= 21 /\ wr = w2 /\ Hid (Tt.numFrom b 1 = Tt.numFrom b k)) (fun iv _ => 21 - (intOf iv).toNat)
   case atStart => exact ⟨1,rfl,by omega,by omega,rfl,rfl⟩
   case round =>
    obtain ⟨k,rfl,hk1,hk2,hw,HK⟩:=hrel;subst hw;by_cases hlt : k <= 20
    ·have hki : (k : Int) <= 20:=by omega
     go_wp2_with fail;refine (Tryz.strconv_Itoa_small k (by omega) _).mono ?_;rintro e w1 ⟨rfl,hw⟩;rw [hw];clear hw w1;by_cases he : b = Lib.decDigits k
     ·have ht : (b == Lib.decDigits k) = true:=beq_iff_eq.2 he;have HT:=Lh (HE.out.trans (HK.out.trans (Tt.numFrom_hit b k hlt he)));clear he;go_wp2_with fail;go_ret;exact ⟨ret_bool HT.out.symm,hbe⟩
     ·have ht : (b == Lib.decDigits k) = false:=beq_eq_false_iff_ne.2 he;have HT:=Lh (HK.out.trans (Tt.numFrom_step b k he));clear he;go_wp2_with fail;go_roundw
      case rel => exact ⟨k + 1,by go_num,by omega,by omega,by first | rfl | trivial,HT.out⟩
      case measure => simp [intOf];omega
    ·have hki : ¬ (k : Int) <= 20:=by omega
     have HT:=Lh (show rightB s.data.toList = false from HE.out.trans (HK.out.trans (by rw [show k = 21 by omega];exact Tt.numFrom_end b)));go_wp2_with fail;go_ret;exact ⟨ret_bool HT.out.symm,hbe⟩
theorem size_mk (l : List UInt8) : (⟨l.toArray⟩ : ByteArray).size = l.length:=by rw [Lib.size_eq]
end Go.Proofs.YtcomifbfldoeiaaGreatDoor
-- UidW2
namespace Tt
def labC (c : UInt8) : Bool:=c == 10 || (decide (32 <= c.toNat) && decide (c.toNat <= 126))
def labB (l : List UInt8) : Bool:=l.all labC && decide (l.length <= 64)
theorem all_step (p : UInt8 -> Bool) (l : List UInt8) (k : Nat) (c : UInt8) (h : l[k]? = some c) : (l.drop k).all p = (p c && (l.drop (k + 1)).all p):=by
 obtain ⟨g1,g2⟩:=xe.1 h;rw [xi g1,g2,List.all_cons]
theorem all_end (p : UInt8 -> Bool) (l : List UInt8) (k : Nat) (h : l.length <= k) : (l.drop k).all p = true:=by rw [List.drop_eq_nil_of_le h];rfl
end Tt
namespace Go.Proofs.YtcomifbfldoeiaaGreatDoor
open Go.RowKit
end Go.Proofs.YtcomifbfldoeiaaGreatDoor
-- UidW3
namespace Go.Proofs.YtcomifbfldoeiaaGreatDoor
open Go.RowKit
theorem lab_kinds (c : UInt8) : (((c.toNat : Int) != 10) = false /\ c.toNat = 10 /\ Hid (Tt.labC c = true)) ∨
  (((c.toNat : Int) != 10) = true /\ (c.toNat : Int) < 32 /\ Hid (Tt.labC c = false)) ∨
  (((c.toNat : Int) != 10) = true /\ ¬ (c.toNat : Int) < 32 /\ (126 : Int) < c.toNat /\ Hid (Tt.labC c = false)) ∨
  (((c.toNat : Int) != 10) = true /\ ¬ (c.toNat : Int) < 32 /\ ¬ (126 : Int) < c.toNat /\ Hid (Tt.labC c = true)):=by
 by_cases e : c = 10
 ·subst e;exact .inl ⟨rfl,rfl,by show _ = _;rfl⟩
 ·have b1 : ((c.toNat : Int) != 10) = true:=by have:=byte_ne c 10 10 rfl e;simp only [bne,this];rfl
  right
  by_cases h1 : (c.toNat : Int) < 32
  ·refine .inl ⟨b1,h1,?_⟩;show _ = _
   unfold Tt.labC;rw [beq_eq_false_iff_ne.2 e,decide_eq_false (by omega)];rfl
  ·by_cases h2 : (126 : Int) < c.toNat
   ·refine .inr (.inl ⟨b1,h1,h2,?_⟩);show _ = _
    unfold Tt.labC;rw [beq_eq_false_iff_ne.2 e,decide_eq_false (show ¬ c.toNat <= 126 by omega)];simp
   ·refine .inr (.inr ⟨b1,h1,h2,?_⟩);show _ = _
    unfold Tt.labC;rw [decide_eq_true (by omega),decide_eq_true (by omega)];simp
theorem label167 (s : ByteArray) (w : World) (hs : s.size <= 4611686018427387904) : Calls Tryz.prog 193 #[.string s] w fun e w' => e = .returned (.bool (Tt.labB s.data.toList)) /\ Below w.heap.size w w':=by
  have HL:=Lh (Lib.size_eq s);have HB:=Lh (show Tt.labB s.data.toList = ((s.data.toList.drop 0).all Tt.labC && decide ((s.size : Int) <= 64)) by
    unfold Tt.labB;rw [<- HL.out];congr 1;rw [decide_eq_decide];omega)
  obtain ⟨cap,W,hconv,hb0,hsz,hcell⟩:=bytes_of s w;have HCELL:=Lh hcell;clear hcell;go_enter Tryz.func193,Tryz.ntmps193;go_wp2_with fail;clear hconv;go_loop [8] (fun i => ∃ k : Nat,k <= s.size /\ i = .int .i64 k /\ Hid ((s.data.toList.drop 0).all Tt.labC = (s.data.toList.drop k).all Tt.labC)) (fun i => s.size - (intOf i).toNat)
  case atStart => exact ⟨0,Nat.zero_le _,rfl,rfl⟩
  case round =>
    obtain ⟨k,hk,rfl,HK⟩:=hrel;by_cases hlt : k < s.size
    · obtain ⟨c,hcl⟩ : ∃ c,s.data.toList[k]? = some c:=⟨_,xb (by rw [<- HL.out];exact hlt)⟩
      have hcc:=HCELL.out k c hcl;have HS:=Lh (HK.out.trans (Tt.all_step _ _ _ _ hcl));clear hcl;have hki : (k : Int) < (s.size : Int):=by omega
      have hcb:=UInt8.toNat_lt c;rcases lab_kinds c with ⟨d1,d2,DS⟩ | ⟨d1,d2,DS⟩ | ⟨d1,d2,d3,DS⟩ | ⟨d1,d2,d3,DS⟩
      all_goals
        go_wp2_with fail;first
          | (go_ret
             exact ⟨ret_bool (by rw [HB.out,HS.out,DS.out];rfl),hb0⟩)
          | (go_round
             case rel => exact ⟨k + 1,by omega,by go_num,by show _ = _;rw [HS.out,DS.out];rfl⟩
             case measure => simp [intOf];omega)
    · have hki : ¬ (k : Int) < (s.size : Int):=by omega
      go_wp2_with fail;go_ret;exact ⟨ret_bool (by rw [HB.out,HK.out,Tt.all_end _ _ _ (by rw [<- HL.out];omega)];rfl),hb0⟩
end Go.Proofs.YtcomifbfldoeiaaGreatDoor
-- Ev
namespace Go.Proofs.YtcomifbfldoeiaaGreatDoor
open Go.RowKit
structure Ev where
 uid : ByteArray
 seq : Int
 canc : Bool
 days : Tt.Ser
 start : Int
 mins : Int
 summ : ByteArray
 loc : ByteArray
def checkV (e : Ev) (v : Int) : Int :=
 if e.seq < 1 ∨ v < e.seq then 3
 else if Tt.serV e.days ≠ 0 then Tt.serV e.days
 else if Tt.serDays e.days = [] then 16
 else if e.start < 0 ∨ 1440 <= e.start ∨ e.mins < 1 ∨ 1440 < e.mins then 14
 else if e.summ.size = 0 ∨ Tt.labB e.summ.data.toList = false ∨ Tt.labB e.loc.data.toList = false then 4
 else 0
def lateU : Option ByteArray -> ByteArray -> Bool
 | none,_ => false
 | some p,u => Op.bytesLess u.toList p.toList || u.toList == p.toList
def evsV (v : Int) : Option ByteArray -> List Ev -> Int
 | _,[] => 0
 | p,e :: r => if rightB e.uid.data.toList = false then 4 else if lateU p e.uid = true then 63 else if checkV e v ≠ 0 then checkV e v else evsV v (some e.uid) r
def feedV (n : ByteArray) (v : Int) (es : List Ev) : Int :=
 if Tt.code n.data.toList = false then 10
 else if v < 0 ∨ 64 < v then 3
 else if 256 < (es.length : Int) then 2
 else evsV v none es
def prevU (es : List Ev) (k : Nat) : Option ByteArray:=if k = 0 then none else es[k - 1]?.map (·.uid)
theorem prevU_succ (es : List Ev) (k : Nat) (e : Ev) (h : es[k]? = some e) : prevU es (k + 1) = some e.uid:=by unfold prevU;simp [h]
def evsF (v : Int) (es : List Ev) (k : Nat) : Int:=evsV v (prevU es k) (es.drop k)
theorem evsF_cons (v : Int) (es : List Ev) (k : Nat) (e : Ev) (h : es[k]? = some e) :
  evsF v es k = if rightB e.uid.data.toList = false then 4 else if lateU (prevU es k) e.uid = true then 63 else if checkV e v ≠ 0 then checkV e v else evsF v es (k + 1):=by
 obtain ⟨g1,g2⟩:=xe.1 h;unfold evsF;rw [xi g1,g2,evsV,prevU_succ es k e h]
theorem evsF_end (v : Int) (es : List Ev) (k : Nat) (h : es.length <= k) : evsF v es k = 0:=by
 unfold evsF;rw [List.drop_eq_nil_of_le h];unfold evsV;rfl
end Go.Proofs.YtcomifbfldoeiaaGreatDoor
-- UidW4
namespace Go.Proofs.YtcomifbfldoeiaaGreatDoor
open Go.RowKit
end Go.Proofs.YtcomifbfldoeiaaGreatDoor
namespace Tt
open Go.Lib (decDigits decDigits_one decDigits_two)
def d2 (n : Nat) : List UInt8:=[UInt8.ofNat (48 + n / 10),UInt8.ofNat (48 + n % 10)]
def d4 (n : Nat) : List UInt8:=[UInt8.ofNat (48 + n / 1000),UInt8.ofNat (48 + n / 100 % 10),UInt8.ofNat (48 + n / 10 % 10),UInt8.ofNat (48 + n % 10)]
def padD (n k : Nat) : List UInt8:=List.replicate (k - (decDigits n).length) 48 ++ decDigits n
theorem dec_step {n : Nat} (h : ¬ n < 10) : decDigits n = decDigits (n / 10) ++ [UInt8.ofNat (48 + n % 10)]:=by rw [decDigits.eq_def n,dif_neg h]
theorem dec_four {n : Nat} (h0 : 1000 <= n) (h1 : n < 10000) : decDigits n = d4 n:=by
 rw [dec_step (by omega),dec_step (n:=n / 10) (by omega),decDigits_two (i:=n / 10 / 10) (by omega) (by omega)];unfold d4;rw [show n / 10 / 10 / 10 = n / 1000 by omega,show n / 10 / 10 = n / 100 by omega];rfl
theorem padD_two {n : Nat} (h : n < 100) : padD n 2 = d2 n:=by
 unfold padD d2;by_cases h1 : n < 10
 ·rw [decDigits_one h1,show n / 10 = 0 by omega,show n % 10 = n by omega];rfl
 ·rw [decDigits_two h1 h];rfl
theorem padD_four {n : Nat} (h0 : 1000 <= n) (h1 : n < 10000) : padD n 4 = d4 n:=by
 unfold padD;rw [dec_four h0 h1];rfl
theorem dec_len : ∀ (k n : Nat),n < 10 ^ (k + 1) -> (decDigits n).length <= k + 1
 | 0,n,h => by rw [decDigits_one (by simpa using h)];simp
 | k + 1,n,h => by
  by_cases h1 : n < 10
  ·rw [decDigits_one h1];simp
  ·rw [dec_step h1,xk];have:=dec_len k (n / 10) (by rw [Nat.div_lt_iff_lt_mul (by omega)];rw [Nat.pow_succ] at h;exact h);simp;omega
def dateL (day : Int) : List UInt8:=d4 (yOf day).toNat ++ d2 (mOf day).toNat ++ d2 (dOf day).toNat
end Tt
namespace Go.Proofs.YtcomifbfldoeiaaGreatDoor
open Go.RowKit
def Pow (w : World) : Prop:=∃ t fr,w.heap[3]? = some (.cells (Lib.pow10Tab.map fun z => Value.int .u64 z).toArray t fr)
theorem Pow.below {B : Nat} {w w' : World} (h : Pow w) (hB : 6 < B) (hb : Below B w w') : Pow w':=by
 obtain ⟨t,fr,h⟩:=h;exact ⟨t,fr,(hb.block 3 (by omega)).trans h⟩
theorem itoa136 (n : Int) (w : World) (hP : Pow w) (h0 : 0 <= n) (h1 : n <= 4611686018427387903) : Calls Tryz.prog 89 #[.int .i64 n] w fun e w' => e = .returned (.string ⟨(Lib.decDigits n.toNat).toArray⟩) /\ Below w.heap.size w w':=by
 refine (Any.strconv_Itoa Tryz.laysM171 n (by omega) (by omega) w ?_).mono ?_
 ·obtain ⟨t,fr,h⟩:=hP;unfold Lib.TabIs World.var?;generalize hn : Program.globalNamed Tryz.prog _ = o;have ho : o = some 3:=hn.symm.trans (by kernel_rfl);subst ho;simp [h]
 ·rintro e w' ⟨rfl,k,os,rfl⟩;refine ⟨ret_str ?_,Lib.below_grow _ _ (xa _) _ _⟩;unfold Lib.itoa;rw [if_neg (by omega)]
theorem rep_one (c : UInt8) (k : Nat) : Lib.repeatL [c] k = List.replicate k c:=by
 induction k with
 | zero => rfl
 | succ k ih => rw [Lib.repeatL,ih];rfl
theorem digits310 (n : Int) (k : Nat) (w : World) (hP : Pow w) (h0 : 0 <= n) (h1 : n <= 99999) (hk : k <= 10) : Calls Tryz.prog 256 #[.int .i64 n,.int .i64 k] w fun e w' => e = .returned (.string ⟨(Tt.padD n.toNat k).toArray⟩) /\ Below w.heap.size w w':=by
 have HP:=Lh hP;clear hP;have hl:=Tt.dec_len 4 n.toNat (by omega);have HR:=Lh (show Tt.padD n.toNat k = List.replicate (k - (Lib.decDigits n.toNat).length) 48 ++ Lib.decDigits n.toNat from rfl);go_enter Tryz.func256,Tryz.ntmps256;go_wp2_with fail;refine (itoa136 n w HP.out h0 (by omega)).mono ?_;rintro e w1 ⟨rfl,hb1⟩;generalize Lib.decDigits n.toNat = L at hl HR ⊢;have HB1:=Lh hb1;clear hb1;have hw : IntKind.i64.wrap ((k : Int) - (L.length : Int)) = (k : Int) - (L.length : Int):=by rw [IntKind.wrap_i64];omega
 have hm : max ((k : Int) - (L.length : Int)) 0 = ((k - L.length : Nat) : Int):=by omega
 go_wp2_with fail;refine (Tryz.strings_Repeat ⟨#[48]⟩ (k - L.length) w1 (by omega) (by show 1 * _ <= _;omega)).mono ?_;rintro e w2 ⟨rfl,hb2⟩;have HB2:=Lh (HB1.out.trans (hb2.mono HB1.out.size));clear hb2;have HX:=Lh (show Lib.repeatL (⟨#[48]⟩ : ByteArray).data.toList (k - L.length) = List.replicate (k - L.length) 48 from rep_one _ _);rw [HX.out];have hsz : (ByteArray.mk (List.replicate (k - L.length) (48 : UInt8)).toArray).size <= 10:=by rw [Lib.size_eq];simp;omega
 have hsz2 : (ByteArray.mk L.toArray).size <= 5:=by rw [Lib.size_eq];simpa using hl
 go_wp2_with fail;go_ret;exact ⟨by rw [HR.out];congr 2,HB2.out⟩
theorem digits309 (n : Int) (k : Nat) (w : World) (hP : Pow w) (h0 : 0 <= n) (h1 : n <= 99999) (hk : k <= 10) : Calls Tryz.prog 255 #[.int .i64 n,.int .i64 k] w fun e w' => e = .returned (.string ⟨(Tt.padD n.toNat k).toArray⟩) /\ Below w.heap.size w w':=by
 have HP:=Lh hP;clear hP;have hl:=Tt.dec_len 4 n.toNat (by omega);have HR:=Lh (show Tt.padD n.toNat k = List.replicate (k - (Lib.decDigits n.toNat).length) 48 ++ Lib.decDigits n.toNat from rfl);go_enter Tryz.func255,Tryz.ntmps255;go_wp2_with fail;refine (itoa136 n w HP.out h0 (by omega)).mono ?_;rintro e w1 ⟨rfl,hb1⟩;generalize Lib.decDigits n.toNat = L at hl HR ⊢;have HB1:=Lh hb1;clear hb1;have hw : IntKind.i64.wrap ((k : Int) - (L.length : Int)) = (k : Int) - (L.length : Int):=by rw [IntKind.wrap_i64];omega
 have hm : max ((k : Int) - (L.length : Int)) 0 = ((k - L.length : Nat) : Int):=by omega
 go_wp2_with fail;refine (Tryz.strings_Repeat ⟨#[48]⟩ (k - L.length) w1 (by omega) (by show 1 * _ <= _;omega)).mono ?_;rintro e w2 ⟨rfl,hb2⟩;have HB2:=Lh (HB1.out.trans (hb2.mono HB1.out.size));clear hb2;have HX:=Lh (show Lib.repeatL (⟨#[48]⟩ : ByteArray).data.toList (k - L.length) = List.replicate (k - L.length) 48 from rep_one _ _);rw [HX.out];have hsz : (ByteArray.mk (List.replicate (k - L.length) (48 : UInt8)).toArray).size <= 10:=by rw [Lib.size_eq];simp;omega
 have hsz2 : (ByteArray.mk L.toArray).size <= 5:=by rw [Lib.size_eq];simpa using hl
 go_wp2_with fail;go_ret;exact ⟨by rw [HR.out];congr 2,HB2.out⟩
end Go.Proofs.YtcomifbfldoeiaaGreatDoor
