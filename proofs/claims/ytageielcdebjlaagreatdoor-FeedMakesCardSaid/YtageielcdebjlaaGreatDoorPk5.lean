/- timetableref39.Days: its contract: the days of the series. timetablemore.many: its contract: a number. recurrence.regulars: the iterator over the regular days of a series; slices.Clone and Contains at whole numbers. DERIVED: THE SHELF's CONTRACTS AT THIS DUMP, IN PLAIN WORDS (tools/lay-plain.mjs out of 'TryzSort.lean', which tools/lay-shelf.mjs wrote): THE SAME DECLARATIONS UNDER THE SAME NAMES: 'import', 'namespace', 'open', 'def', 'theorem' AND NOTHING ELSE: no command of the shelf's: FOR A HAND-IN. Each laying: the table of numbers ('.._ren') and one theorem, a field a fact of the dump's own or the kernel's comparison; each contract: ONE APPLICATION. recurrence.Days: its contract. Plain facts on identifiers of events, and on decimal numbers. No program in sight. Condition: none. Identifiers of events: contracts of feed.right, timetableref40.right and decimal. Codes and labels: contracts of timetableref03.Valid and of both label functions; of timetableref40.right. Labels and identifiers: contracts of both label functions and of timetableref40.right. Plain facts on events and feeds: what is valid. No program in sight. Condition: none. timetableref40.right: its contract. -/
import Derived.Test.YtageielcdebjlaaGreatDoorPk3
import Derived.Test.YtageielcdebjlaaGreatDoorUnfoldAll
import Derived.RangeFuncNested
import Derived.RangeFuncBound
import Derived.RangeFuncCalls
import Derived.RangeFuncLeaves
import Derived.RangeFuncBox
import Derived.Shelf.Abstract
import Derived.Shelf.RegionOpen
import Derived.WalkKit
import Derived.OwnWalkIn
import Derived.TacticsInMore
import Derived.LoopNIn
import Derived.LoopIn
import Derived.Maps.AppendAt
import Derived.Test.YtageielcdebjlaaGreatDoorPk1
import Derived.Shelf.Sort.Plain
import Derived.Shelf.Slices.In.SortNone
import Derived.Test.YtageielcdebjlaaGreatDoorProg
import Derived.Sort.OwnSortedInts
import Derived.Lib.ItoaNum
import Derived.Lib.IndexMore
import Derived.Lib.IndexLaws
import Derived.Lib.IndexBytes
import Derived.Test.YtageielcdebjlaaGreatDoorPk2
import Derived.Deep.RegionHeld3
set_option maxRecDepth 100000
set_option maxHeartbeats 40000000
-- SerD
namespace Go.Proofs.YtageielcdebjlaaGreatDoor
open Go.RowKit
theorem Ints.form {B : Nat} {w : World} {ao : Option Addr} {xs : List Int} (h : Ints B w ao xs) (hne : 0 < xs.length) :
  ∃ b o,ao = some ⟨b,o,none⟩ /\ b < B /\ ∀ (j : Nat) (x : Int),xs[j]? = some x -> w.cell? ⟨b,o + j,none⟩ = some (.int .i64 x):=by
 obtain ⟨⟨b,o,sp⟩,ha,hlt,hc⟩:=h 0 _ (List.getElem?_eq_getElem hne);rw [Addr.add_zero'] at hc;have hsp : sp = none:=World.cell?_spot hc;subst hsp;refine ⟨b,o,ha,hlt,fun j x hx => ?_⟩;obtain ⟨a',ha',_,hc'⟩:=h j x hx;rw [ha] at ha';cases ha';rw [Addr.add_lit] at hc';exact hc'
theorem in188 (B : Nat) (ao : Option Addr) (c : Nat) (xs : List Int) (x : Int) (w : World) (hI : Ints B w ao xs) (hn : xs.length <= 4611686018427387903) :
  Calls Tryz.prog 188 #[.slice ao xs.length c,.int .i64 x] w fun e w' => e = .returned (.bool (decide (x ∈ xs))) /\ w' = w:=by
 have HI:=Lh hI;clear hI;go_enter Tryz.func188,Tryz.ntmps188;go_wp2_with fail;go_loop [5] (fun i => ∃ k : Nat,i = .int .i64 k /\ k <= xs.length /\ Hid (decide (x ∈ xs) = decide (x ∈ xs.drop k))) (fun i => xs.length - (intOf i).toNat)
 case atStart => exact ⟨0,rfl,Nat.zero_le _,rfl⟩
 case round =>
  obtain ⟨k,rfl,hk,HK⟩:=hrel;by_cases hlt : k < xs.length
  ·obtain ⟨d,hd⟩ : ∃ d,xs[k]? = some d:=⟨_,List.getElem?_eq_getElem hlt⟩
   obtain ⟨b,o,ha,hb,hc0⟩:=HI.out.form (by omega);subst ha;have hc:=hc0 k d hd;have hki : (k : Int) < (xs.length : Int):=by omega
   have HD:=Lh (show decide (x ∈ xs.drop k) = (decide (x = d) || decide (x ∈ xs.drop (k + 1))) by
    obtain ⟨g1,g2⟩:=List.getElem?_eq_some_iff.1 hd;rw [List.drop_eq_getElem_cons g1,g2];simp)
   clear hd hc0;by_cases he : d = x
   ·have ht : (d == x) = true:=by simp [he]
    have HE:=Lh (show decide (x ∈ xs) = true by rw [HK.out,HD.out,he];simp);clear he;go_wp2_with fail;go_ret;exact ⟨ret_bool HE.out.symm,rfl⟩
   ·have ht : (d == x) = false:=by simp [he]
    have HE:=Lh (show decide (x ∈ xs) = decide (x ∈ xs.drop (k + 1)) by rw [HK.out,HD.out,decide_eq_false (fun e => he e.symm)];rfl);clear he;go_wp2_with fail;go_round
    case rel => exact ⟨k + 1,by go_num,by omega,HE.out⟩
    case measure => simp [intOf];omega
  ·have hki : ¬ (k : Int) < (xs.length : Int):=by omega
   have HE:=Lh (show decide (x ∈ xs) = false by rw [HK.out,List.drop_eq_nil_of_le (by omega)];simp);go_wp2_with fail;go_ret;exact ⟨ret_bool HE.out.symm,rfl⟩
-- DAYS
theorem valid145_any (s : Tt.Ser) (B : Nat) (w : World) (hn : s.ex.length <= 4611686018427387903) (hn2 : s.xt.length <= 4611686018427387903) (ao ao' : Option Addr) (c c' : Nat) (hB : B <= w.heap.size) (hI : Ints B w ao s.ex) (hI' : Ints B w ao' s.xt) :
  Calls Tryz.prog 145 #[serVal s (.slice ao s.ex.length c) (.slice ao' s.xt.length c')] w fun e w' => e = .returned (.int .i64 (Tt.serV s)) /\ Below w.heap.size w w':=by
 by_cases h : Tt.headV s = 0
 ·exact valid145_body s B w ((Tt.headV_zero s).1 h) ao ao' c c' hB hI hI'
 ·rw [Tt.serV_head s h];exact valid145_head s w h hn hn2 ao ao' c c'
theorem filter_snoc {α : Type} (f : α -> Bool) (l : List α) (x : α) : (l ++ [x]).filter f = l.filter f ++ (if f x = true then [x] else []):=by
 rw [List.filter_append];cases h : f x <;> simp [h]
theorem ownsRow_mono {w : World} {B B' : Nat} {e : TypeId} {size : Nat} {v : Value} {n : Nat} {xs : List Value} (h : w.ownsRow B e size v n xs) (hB : B' <= B) : w.ownsRow B' e size v n xs:=by
 refine ⟨h.1,?_⟩;rcases h.2 with h1 | ⟨g,cap,cur,r1,r2,r3⟩
 ·exact .inl h1
 ·exact .inr ⟨g,cap,cur,r1,by omega,r3⟩
theorem infoInt : (Tryz.prog.info? 3).map (fun i => (i.zero,i.size,i.bytes)) = some (some (.int .i64 0),1,8):=by kernel_rfl
end Go.Proofs.YtageielcdebjlaaGreatDoor
-- Many
namespace Go.Proofs.YtageielcdebjlaaGreatDoor
open Go.RowKit
end Go.Proofs.YtageielcdebjlaaGreatDoor
-- Days1
namespace Go.Proofs.YtageielcdebjlaaGreatDoor
open Go.RowKit Go.Shelf
theorem contains148 (B : Nat) (ao : Option Addr) (c : Nat) (xs : List Int) (x : Int) (w : World) (hI : Ints B w ao xs) (hn : xs.length <= 4611686018427387903) :
  Calls Tryz.prog 148 #[.slice ao xs.length c,.int .i64 x] w fun e w' => e = .returned (.bool (decide (x ∈ xs))) /\ w' = w:=by
 rcases Nat.eq_zero_or_pos xs.length with h0 | h0
 ·have : xs = []:=List.eq_nil_of_length_eq_zero h0;subst this;refine (Tryz.slices_Contains_int_empty ao c x w).mono ?_;rintro e w' ⟨rfl,rfl⟩;exact ⟨ret_bool (by simp),rfl⟩
 ·obtain ⟨b,o,rfl,_,hc⟩:=hI.form h0;refine (Tryz.slices_Contains_int b o xs.length c xs x w (Nat.le_refl _) (by omega) (fun j hj => ?_)).mono ?_
  ·rw [hc j _ (List.getElem?_eq_getElem hj)];simp [List.getD_eq_getElem?_getD,hj]
  ·rintro e w' ⟨rfl,rfl⟩;exact ⟨ret_bool (by rw [List.take_length];simp),rfl⟩
theorem clone146 (B : Nat) (ao : Option Addr) (c : Nat) (xs : List Int) (w : World) (hI : Ints B w ao xs) (hn : xs.length <= 1000000) :
  Calls Tryz.prog 146 #[.slice ao xs.length c] w fun e w' => ∃ v',e = .returned v' /\ w'.ownsRow w.heap.size 3 1 v' xs.length (xs.map (Value.int .i64)) /\ Below w.heap.size w w':=by
 rcases Nat.eq_zero_or_pos xs.length with h0 | h0
 ·have : xs = []:=List.eq_nil_of_length_eq_zero h0;subst this;cases ao with
  | none =>
   refine (Tryz.slices_Clone_int_nil _ c w).mono ?_;rintro e w' ⟨rfl,rfl⟩;exact ⟨_,rfl,World.ownsRow_nil _ _ _ _,Below.refl _ _⟩
  | some a =>
   refine (Tryz.slices_Clone_int_zero a c w).mono ?_;rintro e w' ⟨v',rfl,h1,_,h2⟩;exact ⟨_,rfl,h1,h2⟩
 ·obtain ⟨b,o,rfl,_,hc⟩:=hI.form h0;refine (Tryz.slices_Clone_int b o xs.length c xs w (Nat.le_refl _) (by omega) (fun j hj => ?_)).mono ?_
  ·rw [hc j _ (List.getElem?_eq_getElem hj)];simp [List.getD_eq_getElem?_getD,hj]
  ·rintro e w' ⟨v',rfl,h1,_,h2⟩;rw [List.take_length] at h1;exact ⟨_,rfl,h1,h2⟩
theorem regulars147 (s : Tt.Ser) (ao ao' : Option Addr) (n n' c c' : Nat) (w : World) :
  Calls Tryz.prog 147 #[serVal s (.slice ao n c) (.slice ao' n' c')] w fun e w' => e = .returned (.func (.func 221) #[] #[.pointer (some ⟨w.heap.size,0,none⟩)]) /\ w' = w.alloc (.cells #[.int .i64 s.first,.int .i64 s.last,.int .i64 s.every,.int .i64 s.wd,.slice ao n c,.slice ao' n' c'] 80):=by
 unfold serVal;go_enter Tryz.func147,Tryz.ntmps147;go_wp2_with fail;go_ret;exact ⟨rfl,rfl⟩
attribute [local go_sem] Oper.semAt_some
def regTo (s : Tt.Ser) (k : Nat) : List Int:=(Tt.daysFrom s.first k).filter (Tt.regB s)
theorem regTo_succ (s : Tt.Ser) (k : Nat) : regTo s (k + 1) = regTo s k ++ (if Tt.regB s (s.first + k) = true then [s.first + k] else []):=by
 unfold regTo;rw [Tt.daysFrom_snoc,filter_snoc]
theorem regTo_le (s : Tt.Ser) (k : Nat) : (regTo s k).length <= k:=by
 have:=List.length_filter_le (Tt.regB s) (Tt.daysFrom s.first k);rw [Tt.daysFrom_length] at this;exact this
def Kp0 (b : Nat) (W W' : World) : Prop:=W'.heap[b]? = W.heap[b]?
theorem below_grown {w w' : World} (h : Below w.heap.size w w') : w.grownBy w' none:=⟨h.os,h.tape,h.output,h.size,fun k hk _ => h.block k hk⟩
theorem regulars221 (n : Nat) (hn : 1 <= n) (l Bs : Nat) (s : Tt.Ser) (hh : Tt.Head s) (ao ao' : Option Addr) (m m' c c' : Nat) (J Jx : List Int -> World -> Prop)
  (W : World) (hJ : AbidesFrom W.heap.size J)
  (hY : ∀ pre x W,J pre W -> pre.length < 141 -> YieldAt Fence.wide (n - 1) Tryz.prog l #[.int .i64 x] W fun e W' =>
   (e = .returned (.bool true) /\ J (pre ++ [x]) W' /\ Kp0 Bs W W') ∨ (e = .returned (.bool false) /\ Jx (pre ++ [x]) W'))
  (hS : SerAt Bs s (.slice ao m c) (.slice ao' m' c') W) (h0 : J [] W) :
  CallsIn Fence.wide n Tryz.prog 221 #[.func (.yield l) #[] #[],.pointer (some ⟨Bs,0,none⟩)] W fun e W' => (∃ v,e = .returned v) /\
   ((∃ ys,ys = regTo s (s.last - s.first + 1).toNat /\ J ys W') ∨ (∃ pre,True /\ Jx pre W')):=by
 have hf : Tt.isD s.first = true:=(Tt.isD_iff _).2 ⟨hh.f0,hh.f1⟩;have hl : Tt.isD s.last = true:=(Tt.isD_iff _).2 ⟨hh.l0,hh.l1⟩;have R:=fun d W => regular220_any s d W hf hl hh.e0 hh.e1 hh.w0 hh.w1
 have HR:=Lh R;have HY:=Lh hY;have HJ:=Lh hJ;have HS:=Lh hS;obtain ⟨a1,a2,a3,a4,a5,a6,a7,a8,a9,a10,a11⟩:=hh;obtain ⟨e0,e1,e2,e3,e4,e5⟩:=hS.cells;clear hf hl R hY hJ hS;refine callsIn_of_wp Tryz.func221 rfl trivial ?_ rfl;simp only [Tryz.ntmps221,List.size_toArray,List.length_cons,List.length_nil,Nat.reduceAdd,Nat.reduceSub,Array.replicate_succ,Array.replicate_zero,List.push_toArray,List.append_toArray,List.nil_append,List.cons_append];gi_wp2
 clear e0 e1 e2 e3 e4 e5;gi_loopw [3] (fun i wr => ∃ k : Nat,(k : Int) <= s.last - s.first + 1 /\ i = .int .i64 (s.first + k) /\ J (regTo s k) wr /\ Hid (Kp0 Bs W wr))
  (fun i _ => (s.last + 1 - intOf i).toNat)
 case atStart => exact ⟨0,by omega,by go_num,h0,(show Kp0 Bs W W from rfl)⟩
 case round =>
  obtain ⟨k,hk,rfl,hJs,hnx⟩:=hrel;have HA:=Lh (HS.out.block hnx.out);obtain ⟨e0,e1,e2,e3,e4,e5⟩:=HA.out.cells;have hsz:=HA.out.lt;by_cases hlt : s.first + k <= s.last
  ·have hkn : (regTo s k).length < 141:=by have:=regTo_le s k;omega
   have HT:=Lh (regTo_succ s k);gi_wp2_with fail
   refine ⟨trivial,?_⟩;refine (callsIn_wide.2 (HR.out (s.first + k) _ _ _ _ _ _ _)).mono ?_;rintro e w1 ⟨rfl,hb1⟩;have hJ1:=HJ.out _ _ _ none hJs (below_grown hb1) (fun r h => by cases h);have hnx1 : Hid (Kp0 Bs W w1):=(hb1.block _ hsz).trans hnx.out;have HA1:=Lh (HA.out.block (hb1.block _ hsz));clear e0 e1 e2 e3 e4 e5 hnx HA hb1 hsz hJs;obtain ⟨e0,e1,e2,e3,e4,e5⟩:=HA1.out.cells;cases hr : Tt.regB s (s.first + k)
   ·have HT1:=Lh (show regTo s (k + 1) = regTo s k by rw [HT.out,hr];simp);clear hr;gi_wp2_with fail;refine ⟨fun _ h => (by cases h),?_⟩;gi_wp2;go_roundw
    case rel => exact ⟨k + 1,by omega,by go_num,by rw [HT1.out];exact hJ1,hnx1.out⟩
    case measure => simp [intOf];omega
   ·have HT1:=Lh (show regTo s (k + 1) = regTo s k ++ [s.first + k] by rw [HT.out,hr];simp);clear hr;obtain ⟨fn,tmps,assign,body,hy,hRR⟩:=HY.out (regTo s k) (s.first + k) w1 hJ1 hkn;gi_wp2;refine hRR.mono ?_;rintro e W3 (⟨rfl,hJ3,hk3⟩ | ⟨rfl,hJx3⟩)
    ·have HA3:=Lh (HA1.out.block hk3);clear e0 e1 e2 e3 e4 e5 HA1;gi_wp2;go_roundw
     case rel => exact ⟨k + 1,by omega,by go_num,by rw [HT1.out];exact hJ3,(show Kp0 Bs W W3 from Eq.trans hk3 hnx1.out)⟩
     case measure => simp [intOf];omega
    ·gi_wp2
     refine bodyPost_ret (results_none rfl _ _ _) rfl ?_;exact ⟨⟨_,rfl⟩,.inr ⟨_,trivial,hJx3⟩⟩
  ·have hke : k = (s.last - s.first + 1).toNat:=by omega
   gi_wp2
   go_end0
   exact ⟨⟨_,rfl⟩,.inl (by rw [<- hke];exact hJs)⟩
end Go.Proofs.YtageielcdebjlaaGreatDoor
-- Sort
namespace Go.Proofs
open Go.Shelf
def Tryz.lays189_ren : Go.Shelf.Ren:=⟨fun | 189 => 149 | 125 => 158 | 257 => 223 | 128 => 229 | 129 => 230 | 294 => 283 | 295 => 284 | 296 => 285 | 297 => 286 | 298 => 287 | 299 => 288 | 216 => 289 | 300 => 290 | 301 => 291 | 328 => 332 | 329 => 324 | 330 => 325 | 331 => 333 | 332 => 334 | 215 => 320 | 343 => 350 | n => n,fun | 28 => 27 | 3 => 3 | 46 => 185 | 0 => 0 | 51 => 243 | 53 => 245 | 4 => 4 | 183 => 273 | 182 => 272 | 131 => 129 | 5 => 5 | 9 => 9 | 218 => 306 | 222 => 292 | 228 => 327 | 229 => 317 | n => n,fun | n => n⟩
theorem Tryz.lays189 : Go.Proofs.Lays.n189 Tryz.prog Tryz.lays189_ren:={
 mixed:=by kernel_rfl
 f125:=Tryz.func158.trans (congrArg some (by kernel_rfl))
 f128:=Tryz.func229.trans (congrArg some (by kernel_rfl))
 f129:=Tryz.func230.trans (congrArg some (by kernel_rfl))
 f189:=Tryz.func149.trans (congrArg some (by kernel_rfl))
 f215:=Tryz.func320.trans (congrArg some (by kernel_rfl))
 f216:=Tryz.func289.trans (congrArg some (by kernel_rfl))
 f257:=Tryz.func223.trans (congrArg some (by kernel_rfl))
 f294:=Tryz.func283.trans (congrArg some (by kernel_rfl))
 f295:=Tryz.func284.trans (congrArg some (by kernel_rfl))
 f296:=Tryz.func285.trans (congrArg some (by kernel_rfl))
 f297:=Tryz.func286.trans (congrArg some (by kernel_rfl))
 f298:=Tryz.func287.trans (congrArg some (by kernel_rfl))
 f299:=Tryz.func288.trans (congrArg some (by kernel_rfl))
 f300:=Tryz.func290.trans (congrArg some (by kernel_rfl))
 f301:=Tryz.func291.trans (congrArg some (by kernel_rfl))
 f328:=Tryz.func332.trans (congrArg some (by kernel_rfl))
 f329:=Tryz.func324.trans (congrArg some (by kernel_rfl))
 f330:=Tryz.func325.trans (congrArg some (by kernel_rfl))
 f331:=Tryz.func333.trans (congrArg some (by kernel_rfl))
 f332:=Tryz.func334.trans (congrArg some (by kernel_rfl))
 f343:=Tryz.func350.trans (congrArg some (by kernel_rfl))
 t0:=Tryz.underlying0
 a0:=Tryz.isAgg0
 z0:=Tryz.sizeOf0
 v0:=Tryz.zeroValue0
 t3:=Tryz.underlying3
 a3:=Tryz.isAgg3
 z3:=Tryz.sizeOf3
 v3:=Tryz.zeroValue3
 t4:=Tryz.underlying4
 a4:=Tryz.isAgg4
 z4:=Tryz.sizeOf4
 v4:=Tryz.zeroValue4
 t5:=Tryz.underlying5
 a5:=Tryz.isAgg5
 z5:=Tryz.sizeOf5
 v5:=Tryz.zeroValue5
 t9:=Tryz.underlying9
 a9:=Tryz.isAgg9
 z9:=Tryz.sizeOf9
 v9:=Tryz.zeroValue9
 t28:=Tryz.underlying27
 a28:=Tryz.isAgg27
 z28:=Tryz.sizeOf27
 v28:=Tryz.zeroValue27
 t46:=Tryz.underlying185
 a46:=Tryz.isAgg185
 z46:=Tryz.sizeOf185
 v46:=Tryz.zeroValue185
 t51:=Tryz.underlying243
 a51:=Tryz.isAgg243
 z51:=Tryz.sizeOf243
 v51:=Tryz.zeroValue243
 t53:=Tryz.underlying245
 a53:=Tryz.isAgg245
 z53:=Tryz.sizeOf245
 v53:=Tryz.zeroValue245
 t131:=Tryz.underlying129
 a131:=Tryz.isAgg129
 z131:=Tryz.sizeOf129
 v131:=Tryz.zeroValue129
 t182:=Tryz.underlying272
 a182:=Tryz.isAgg272
 z182:=Tryz.sizeOf272
 v182:=Tryz.zeroValue272
 t183:=Tryz.underlying273
 a183:=Tryz.isAgg273
 z183:=Tryz.sizeOf273
 v183:=Tryz.zeroValue273
 t218:=Tryz.underlying306
 a218:=Tryz.isAgg306
 z218:=Tryz.sizeOf306
 v218:=Tryz.zeroValue306
 t222:=Tryz.underlying292
 a222:=Tryz.isAgg292
 z222:=Tryz.sizeOf292
 v222:=Tryz.zeroValue292
 t228:=Tryz.underlying327
 a228:=Tryz.isAgg327
 z228:=Tryz.sizeOf327
 v228:=Tryz.zeroValue327
 t229:=Tryz.underlying317
 a229:=Tryz.isAgg317
 z229:=Tryz.sizeOf317
 v229:=Tryz.zeroValue317 }
open Go.Sort Go.RowKit in
theorem Tryz.slices_Sort_int (blk off cap : Nat) (zs : List Int) (w : World) (hH : Holds (Value.int .i64) w blk off zs.toArray) (hblk : blk < w.heap.size) (hsz : zs.length < 4611686018427387904) :
  Calls Tryz.prog 149 #[.slice (some ⟨blk,off,none⟩) zs.length cap] w fun e w' =>
   e = .returned (.tuple #[]) /\ ∃ n os,w' = grow (putRow (Value.int .i64) (Sort.ahead w n) blk off (zs.mergeSort fun x y => decide (x <= y)).toArray) os:=Any.slices_Sort_int Tryz.lays189 blk off cap zs w hH hblk hsz
open Go.RowKit Go.Sort in
theorem Tryz.slices_Sort_int_none (p : Option Addr) (cap : Nat) (w : World) :
  Calls Tryz.prog 149 #[.slice p 0 cap] w fun e w' => e = .returned (.tuple #[]) /\ w' = w:=Any.slices_Sort_int_none Tryz.lays189 p cap w
end Go.Proofs
-- Days2
namespace Go.Proofs.YtageielcdebjlaaGreatDoor
open Go.RowKit Go.Shelf
theorem sort149 (base : Nat) (v : Value) (zs : List Int) (w : World) (hown : w.ownsRow base 3 1 v zs.length (zs.map (Value.int .i64))) (hn : zs.length <= 1000000) :
  Calls Tryz.prog 149 #[v] w fun e w' => e = .returned (.tuple #[]) /\ w'.ownsRow base 3 1 v zs.length ((zs.mergeSort fun x y => decide (x <= y)).map (Value.int .i64)) /\ w.grownBy w' v.ownBlock:=by
 rcases hown.2 with ⟨rfl,h0⟩ | ⟨g,cap,cur,rfl,hg,hb,hc,hm,hcs,ht⟩
 ·have : zs = []:=List.eq_nil_of_length_eq_zero h0;subst this;refine (Tryz.slices_Sort_int_none none 0 w).mono ?_;rintro e w' ⟨rfl,rfl⟩;exact ⟨rfl,by simpa using World.ownsRow_nil w' base 3 1,⟨rfl,rfl,rfl,Nat.le_refl _,fun _ _ _ => rfl⟩⟩
 ·have hlt : g < w.heap.size:=(Array.getElem?_eq_some_iff.1 hb).1;refine (Tryz.slices_Sort_int g 0 cap zs w (holds_of_blockI hb (by simpa using ht)) hlt (by omega)).mono ?_;rintro e w' ⟨rfl,n,os,rfl⟩;exact ⟨rfl,ownsRow_sortedI (by simp) hg hb hc hm hcs,grownBy_sortedI _⟩
theorem ownsRow_slice {w : World} {B : Nat} {e : TypeId} {k : Nat} {v : Value} {n : Nat} {xs : List Value} (h : w.ownsRow B e k v n xs) : ∃ p m c,v = .slice p m c:=by
 rcases h.2 with ⟨rfl,_⟩ | ⟨g,cap,cur,rfl,_⟩
 ·exact ⟨_,_,_,rfl⟩
 ·exact ⟨_,_,_,rfl⟩
theorem serAt_own {β : Type} (b : Nat) (s : Tt.Ser) (v v' : Value) : Own (fun (_ : β) W => SerAt b s v v' W):=fun _ A B row hs hg hr =>
 (hg.block b hs.lt (fun e => by
  obtain ⟨o,ho,hc⟩:=hr b e.symm;rw [show A.heap[b]? = _ from hs] at ho;cases ho;cases hc)).trans hs
theorem kp_append {W w4 : World} {b B1 : Nat} {s : Tt.Ser} {u u' v v' : Value} {base n : Nat} {xs : List Value} {tmp : Obj} (hS : SerAt b s u u' W) (hrow : W.ownsRow base 3 1 v n xs) (hgrow : (W.alloc tmp).grownBy w4 v.ownBlock) (hne : b ≠ B1) : Kp0 b W (w4.setCell ⟨B1,0,none⟩ v'):=by
 show (w4.setCell ⟨B1,0,none⟩ v').heap[b]? = W.heap[b]?
 rw [Below.heap_setCell _ _ _ _ hne,hgrow.block b (by have:=hS.lt;simp;omega) ?_,Lib.alloc_old W _ b hS.lt];intro e;rcases hrow.2 with ⟨rfl,_⟩ | ⟨g,cap,cur,rfl,_,hgb,_⟩
 ·cases e
 ·simp only [Value.ownBlock,Option.some.injEq] at e;subst e;have:=(show W.heap[b]? = _ from hS).symm.trans hgb;simp at this
theorem def_row {W : World} {D : Nat} {v : Value} {base n : Nat} {xs : List Value} {ds : Option (List Deferred)} (hrow : W.ownsRow base 3 1 v n xs) (hK : W.heap[D]? = some (.deferred ds)) : some D ≠ v.ownBlock:=by
 intro e;rcases hrow.2 with ⟨rfl,_⟩ | ⟨g,cap,cur,rfl,_,hgb,_⟩
 ·cases e
 ·simp only [Value.ownBlock,Option.some.injEq] at e;subst e;rw [hK] at hgb;cases hgb
def gath (s : Tt.Ser) (pre : List Int) : List Int:=s.xt ++ pre.filter fun d => !decide (d ∈ s.ex)
theorem gath_snoc (s : Tt.Ser) (pre : List Int) (d : Int) : gath s (pre ++ [d]) = gath s pre ++ (if (!decide (d ∈ s.ex)) = true then [d] else []):=by
 unfold gath;rw [filter_snoc,List.append_assoc]
theorem gath_le (s : Tt.Ser) (pre : List Int) : (gath s pre).length <= s.xt.length + pre.length:=by
 unfold gath;rw [List.length_append];have:=List.length_filter_le (fun d => !decide (d ∈ s.ex)) pre;omega
theorem gath_all (s : Tt.Ser) : gath s (regTo s (s.last - s.first + 1).toNat) = s.xt ++ (Tt.span s).filter fun d => Tt.regB s d && !decide (d ∈ s.ex):=by
 unfold gath regTo Tt.span;rw [List.filter_filter];congr 2
 funext d
 exact Bool.and_comm _ _
attribute [local go_sem] Oper.semAt_some
theorem days74_ok (s : Tt.Ser) (B : Nat) (w : World) (hv : Tt.serV s = 0) (ao ao' : Option Addr) (c c' : Nat) (hB : B <= w.heap.size) (hI : Ints B w ao s.ex) (hI' : Ints B w ao' s.xt) :
  Calls Tryz.prog 74 #[serVal s (.slice ao s.ex.length c) (.slice ao' s.xt.length c')] w fun e w' => ∃ v,e = .returned v /\ w'.ownsRow w.heap.size 3 1 v (Tt.serDays s).length ((Tt.serDays s).map (Value.int .i64)) /\ Below w.heap.size w w':=by
 obtain ⟨i0,hi,hz0,hz1,hz2⟩:=info_parts infoInt;obtain ⟨hh,_,_⟩:=(Tt.serV_zero s).1 hv;have hn:=hh.n;have S0 : SerAt w.heap.size s (.slice ao s.ex.length c) (.slice ao' s.xt.length c') (w.alloc (.cells #[.int .i64 s.first,.int .i64 s.last,.int .i64 s.every,.int .i64 s.wd,.slice ao s.ex.length c,.slice ao' s.xt.length c'] 80)):=heap_alloc_new w _;have HS0:=Lh S0;have HV:=Lh (valid145_any s B (w.alloc (.cells #[.int .i64 s.first,.int .i64 s.last,.int .i64 s.every,.int .i64 s.wd,.slice ao s.ex.length c,.slice ao' s.xt.length c'] 80)) (by omega) (by omega) ao ao' c c' (by simp;omega) (hI.below ((below_box w _).mono hB)) (hI'.below ((below_box w _).mono hB)));have hBB:=hB;have HI:=Lh hI;have HI':=Lh hI';have HH:=Lh hh;have HVV:=Lh hv;clear hI hI' S0 hh hv;unfold serVal at HV ⊢;refine (callsIn_wide (n:=5)).1 ?_;refine callsIn_of_wp_marks Tryz.func74 rfl trivial ?_ rfl;simp only [Tryz.ntmps74,List.size_toArray,List.length_cons,List.length_nil,Nat.reduceAdd,Nat.reduceSub,Array.replicate_succ,Array.replicate_zero,List.push_toArray,List.append_toArray,List.nil_append,List.cons_append];gi_wp2_with fail
 refine ⟨trivial,?_⟩;refine (callsIn_wide.2 HV.out).mono ?_;rintro e w1 ⟨rfl,hb1⟩;rw [HVV.out];have hbe1:=below_then (below_box w _) hb1;have HA1:=Lh (HS0.out.block (hb1.block _ HS0.out.lt));clear HV hb1;obtain ⟨e0,e1,e2,e3,e4,e5⟩:=HA1.out.cells;have hsz1:=HA1.out.lt;gi_wp2_with fail
 refine ⟨trivial,?_⟩;refine (callsIn_wide.2 (clone146 B ao' c' s.xt w1 (HI'.out.below (hbe1.mono hB)) (by omega))).mono ?_;rintro e w2 ⟨x,rfl,hown2,hb2⟩;obtain ⟨q1,q2,q3,hx⟩:=ownsRow_slice hown2;subst hx;have hbe2:=below_then hbe1 hb2;have HA2:=Lh (HA1.out.block (hb2.block _ hsz1));have hs12:=hb2.size;clear e0 e1 e2 e3 e4 e5;obtain ⟨e0,e1,e2,e3,e4,e5⟩:=HA2.out.cells;have hsz2:=HA2.out.lt;gi_wp2_with fail
 refine ⟨trivial,?_⟩;refine (callsIn_wide.2 (regulars147 s ao ao' s.ex.length s.xt.length c c' _)).mono ?_;rintro e w3 ⟨rfl,hw⟩;rw [hw];clear hw w3;gi_wp2_with fail
 obtain ⟨W0,hW0⟩ : ∃ W0,W0 = ((w2.alloc (.cells #[.slice q1 q2 q3] 27)).alloc (.cells #[.int .i64 s.first,.int .i64 s.last,.int .i64 s.every,.int .i64 s.wd,.slice ao s.ex.length c,.slice ao' s.xt.length c'] 80)):=⟨_,rfl⟩
 obtain ⟨B1,hB1⟩ : ∃ B1,B1 = w2.heap.size:=⟨_,rfl⟩
 have hzq : W0.heap.size = B1 + 2:=by rw [hW0,hB1];simp
 have HZ:=Lh hzq;have bO : Boxed W0 B1 27 (.slice q1 q2 q3):=by rw [hW0,hB1];exact (Boxed.new w2 27 _).alloc _
 have S2 : SerAt (B1 + 1) s (.slice ao s.ex.length c) (.slice ao' s.xt.length c') W0:=by
  rw [hW0,hB1];have:=heap_alloc_new (w2.alloc (.cells #[.slice q1 q2 q3] 27)) (.cells #[.int .i64 s.first,.int .i64 s.last,.int .i64 s.every,.int .i64 s.wd,.slice ao s.ex.length c,.slice ao' s.xt.length c'] 80);simpa [SerAt] using this
 have hbw : Below w1.heap.size w2 W0:=by rw [hW0];exact ((Below.refl _ w2).alloc (by omega) _).alloc (by simp;omega) _
 have hown0 : W0.ownsRow w1.heap.size 3 1 (.slice q1 q2 q3) s.xt.length (s.xt.map (Value.int .i64)):=by rw [hW0];exact (hown2.alloc _).alloc _
 have hbw1:=hb2.trans hbw;have hB1w : w1.heap.size <= B1:=by rw [hB1];exact hs12
 rw [<- hW0,<- hB1];clear hW0 hB1 e0 e1 e2 e3 e4 e5 HA2 hown2 hbw hzq hb2;have hzw : B1 + 2 <= W0.heap.size:=by rw [HZ.out];exact Nat.le_refl _
 refine wpIn_rangeFunc_ownG rfl (by decide) (gf:=221) (lb:=#[.pointer (some ⟨B1 + 1,0,none⟩)]) rfl trivial (enters_of Tryz.func221 (by kernel_rfl) rfl)
  (encs:=fun x : Int => #[Value.int .i64 x]) (Kp:=Kp0 (B1 + 1)) (S:=fun ys => ys = regTo s (s.last - s.first + 1).toNat) (Sp:=fun _ => True) (N:=141) (w0:=W0)
  (fun l J Jx W hW hJ hJx hY h0 => regulars221 4 (by decide) l (B1 + 1) s HH.out ao ao' _ _ c c' J Jx W hJ hY (S2.block (hW.block _ S2.lt)) h0)
  (fun h k => Eq.trans k h) (fun W l o o' hl h _ _ => ?kb) (Below.refl _ _) (fun _ => rfl)
  (fun pre W => (∃ v,Boxed W B1 27 v /\ W.ownsRow w1.heap.size 3 1 v (gath s pre).length ((gath s pre).map (Value.int .i64)) /\ True) /\ SerAt (B1 + 1) s (.slice ao s.ex.length c) (.slice ao' s.xt.length c') W /\ Below w1.heap.size w1 W)
  (fun _ _ _ => False)
  (OwnFrom.and (Own.from (holdsRow_own w1.heap.size B1 27 3 1 (fun pre => (gath s pre).length) (fun pre => (gath s pre).map (Value.int .i64)) (fun _ _ => True)) _) (OwnFrom.and (Own.from (serAt_own _ _ _ _) _) (ownFrom_below (Nat.le_refl _) (by omega))))
  (fun _ _ _ _ _ hs _ _ => hs)
  ⟨⟨_,bO,by simpa [gath] using hown0,trivial⟩,S2,?be0⟩
  (fun x => { tmps:=#[.agg #[.int .i64 s.first,.int .i64 s.last,.int .i64 s.every,.int .i64 s.wd,.slice ao s.ex.length c,.slice ao' s.xt.length c'],.pointer (some ⟨w.heap.size,0,none⟩),.slice none 0 0,.pointer (some ⟨B1,0,none⟩),.int .i64 x,.agg #[.int .i64 s.first,.int .i64 s.last,.int .i64 s.every,.int .i64 s.wd,.slice ao s.ex.length c,.slice ao' s.xt.length c'],.int .i64 0,.bool false,.pointer (some ⟨w.heap.size,5,none⟩),.slice ao' s.xt.length c',.slice q1 q2 q3,.agg #[.int .i64 s.first,.int .i64 s.last,.int .i64 s.every,.int .i64 s.wd,.slice ao s.ex.length c,.slice ao' s.xt.length c'],.func (.func 221) #[] #[.pointer (some ⟨B1 + 1,0,none⟩)],.int .i64 x,undef,undef,undef,undef,undef,undef,undef,undef,undef,undef,undef,undef],defers:=[] }) ?assign ?body ?done ?stop
 case kb =>
  exact (grownBy_putObj' W l o').block (B1 + 1) (by have:=(Array.getElem?_eq_some_iff.1 h).1;omega) (by simp;omega)
 case be0 => exact hbw1
 case assign =>
  intro l x W K hK;gi_wp2
  exact hK
 case body =>
  rintro l pre x W ⟨⟨v,hv,hrow,_⟩,S2W,hB⟩ hlt;have S2H:=Lh S2W;clear S2W;have hc:=hv.cell;have HAW:=Lh (HA1.out.block (hB.block _ hsz1));obtain ⟨e0,e1,e2,e3,e4,e5⟩:=HAW.out.cells;have hpl:=gath_le s pre;have HG:=Lh (gath_snoc s pre x);have hbW:=hbe1.trans (hB.mono (by omega));have hWs:=hB.size;gi_wp2_with fail
  refine ⟨trivial,?_⟩;refine (CallsIn.inRound l (callsIn_wide.2 (contains148 B ao c s.ex x W (HI.out.below (hbW.mono hBB)) (by omega)))).mono ?_;rintro e w3 ⟨rfl,hw⟩;rw [hw];clear hw w3;cases hd : decide (x ∈ s.ex)
  ·have HG1:=Lh (show gath s (pre ++ [x]) = gath s pre ++ [x] by rw [HG.out,hd];rfl);clear hd;gi_wp2_with (gi_at_builtin;refine wpListIn_append_own _ rfl _ _ 27 rfl w1.heap.size 3 i0 (.int .i64 0) 1 8 Tryz.underlying27 hi hz0 hz1 hz2 rfl (by decide) _ _ _ rfl (hrow.alloc _) ⟨W.heap.size,0,none⟩ 1 1 [.int .i64 x] rfl rfl (cell_one_new _ _ _) (by simp [Value.oneCell']) (by unfold maxLen;omega) (by omega) (by simp;omega) ?_);intro v' w4 hown' hgrow _;obtain ⟨g',cap',rfl⟩:=ownsRow_succ hown';obtain ⟨hv1,hv2,hr2,hk2,hb2⟩:=hv.appended (by decide) hrow hWs hB1w hown' hgrow;have hc1:=hv1.cell;have hf1:=hv1.frozen;gi_wp2_with fail;exact ⟨hk2.from _,kp_append S2H.out hrow hgrow (by omega),⟨_,hv2,by rw [HG1.out];simpa using hr2,trivial⟩,SerAt.block S2H.out (kp_append S2H.out hrow hgrow (by omega)),hB.trans hb2⟩
  ·have HG1:=Lh (show gath s (pre ++ [x]) = gath s pre by rw [HG.out,hd];simp);clear hd;gi_wp2_with fail;exact ⟨KeepsFrom.refl _ _,rfl,⟨v,hv,by rw [HG1.out];exact hrow,trivial⟩,S2H.out,hB⟩
 case done =>
  rintro D ys W hD hys ⟨⟨v,hv,hrow,_⟩,_,hB⟩ hK;have hc:=hv.cell;have hgl:=gath_le s ys;have hyl : ys.length <= 141:=by rw [hys];have:=regTo_le s (s.last - s.first + 1).toNat;have:=HH.out.lf;omega
  gi_wp2_with fail
  refine ⟨trivial,?_⟩;refine (callsIn_wide.2 (sort149 w1.heap.size v (gath s ys) W hrow (by omega))).mono ?_;rintro e w3 ⟨rfl,hrow3,hg3⟩;have hv3:=hv.kept hg3 (hv.not_row (by decide) hrow);have hc3:=hv3.cell;have hK3 : w3.heap[D]? = some (.deferred (some [])):=(hg3.block D (Array.getElem?_eq_some_iff.1 hK).1 (def_row hrow hK)).trans hK;have hB3 : Below w1.heap.size w1 w3:=hB.grown hg3 hB.size (fun k e => (hrow.lt k e).1);have HS:=Lh (show (gath s ys).mergeSort (fun x y => decide (x <= y)) = Tt.serDays s from by
   refine Tt.serDays_of s HVV.out _ ?_ ?_
   ·have:=List.pairwise_mergeSort (le:=fun x y : Int => decide (x <= y)) (fun a b c h1 h2 => by simp at *;omega) (fun a b => by simp;omega) (gath s ys);exact this.imp (fun h => by simpa using h)
   ·rw [<- gath_all,<- hys];exact List.mergeSort_perm _ _)
  rw [HS.out] at hrow3;have HLEN:=Lh (show (gath s ys).length = (Tt.serDays s).length by rw [<- HS.out];simp);rw [HLEN.out] at hrow3;clear hc;gi_wp2_with fail
  refine ⟨by simp,.inl ⟨_,_,rfl,run_takeDeferred hK3,?_⟩⟩;exact ⟨_,results_tmp rfl _ _ _,v,rfl,ownsRow_mono (ownsRow_putObj hrow3 _ hK3 rfl) (by omega),hbe1.trans ((hB3.mono (by omega)).trans (belowK_b (w:=w) (Nat.le_refl _) w3 D _ _ (by omega) hK3 rfl rfl))⟩
 case stop =>
  rintro D c pre W _ _ h _;exact h.elim
theorem days74 (s : Tt.Ser) (B : Nat) (w : World) (hn : s.ex.length <= 4611686018427387903) (hn2 : s.xt.length <= 4611686018427387903) (ao ao' : Option Addr) (c c' : Nat) (hB : B <= w.heap.size) (hI : Ints B w ao s.ex) (hI' : Ints B w ao' s.xt) :
  Calls Tryz.prog 74 #[serVal s (.slice ao s.ex.length c) (.slice ao' s.xt.length c')] w fun e w' => ∃ v,e = .returned v /\ w'.ownsRow w.heap.size 3 1 v (Tt.serDays s).length ((Tt.serDays s).map (Value.int .i64)) /\ Below w.heap.size w w':=by
 by_cases hv : Tt.serV s = 0
 ·exact days74_ok s B w hv ao ao' c c' hB hI hI'
 ·have HV:=Lh (valid145_any s B (w.alloc (.cells #[.int .i64 s.first,.int .i64 s.last,.int .i64 s.every,.int .i64 s.wd,.slice ao s.ex.length c,.slice ao' s.xt.length c'] 80)) hn hn2 ao ao' c c' (by simp;omega) (hI.below ((below_box w _).mono hB)) (hI'.below ((below_box w _).mono hB)));have HVV:=Lh (show (Tt.serV s != 0) = true by simp [hv]);have HD:=Lh (show Tt.serDays s = [] by unfold Tt.serDays;rw [if_pos hv]);clear hv hI hI';unfold serVal at HV ⊢;go_enter Tryz.func74,Tryz.ntmps74;go_wp2_with fail;refine HV.out.mono ?_;rintro e w0 ⟨rfl,hb0⟩;have hbe0:=below_then (below_box w _) hb0;have hvv:=HVV.out;clear HV hb0;go_wp2_with fail;refine bodyPost_ret (v:=.slice none 0 0) (by simp [results,Tryz.results74,go_sem]) rfl ?_;refine ⟨_,rfl,?_,hbe0⟩;rw [HD.out];exact World.ownsRow_nil _ _ _ _
end Go.Proofs.YtageielcdebjlaaGreatDoor
-- Uid
namespace Tt
open Go.Lib (decDigits cut index indexByte)
def decim (n m : Nat) (acc : List UInt8) : List UInt8 :=
 if h : n = 0 /\ m = 0 then acc else decim (n / 10) (m - 1) (UInt8.ofNat (48 + n % 10) :: acc)
termination_by n + m
decreasing_by omega
theorem decim_end (acc : List UInt8) : decim 0 0 acc = acc:=by rw [decim,dif_pos ⟨rfl,rfl⟩]
theorem decim_step (n m : Nat) (acc : List UInt8) (h : ¬ (n = 0 /\ m = 0)) : decim n m acc = decim (n / 10) (m - 1) (UInt8.ofNat (48 + n % 10) :: acc):=by rw [decim,dif_neg h]
theorem decim_zero : ∀ (k n : Nat),n <= k -> 1 <= n -> ∀ acc,decim n 0 acc = decDigits n ++ acc
 | 0,n,h,h1,_ => by omega
 | k + 1,n,h,h1,acc => by
  rw [decim_step n 0 acc (by omega)];by_cases h2 : n < 10
  ·rw [show n / 10 = 0 by omega,decim_end,Go.Lib.decDigits_one h2,Nat.mod_eq_of_lt h2];rfl
  ·rw [decim_zero k (n / 10) (by omega) (by omega),decDigits.eq_def n,dif_neg h2];simp
theorem decim_one (n : Nat) (acc : List UInt8) : decim n 1 acc = decDigits n ++ acc:=by
 rw [decim_step n 1 acc (by omega)];by_cases h2 : n < 10
 ·rw [show n / 10 = 0 by omega,decim_end,Go.Lib.decDigits_one h2,Nat.mod_eq_of_lt h2];rfl
 ·rw [decim_zero _ (n / 10) (Nat.le_refl _) (by omega),decDigits.eq_def n,dif_neg h2];simp
theorem decDigits_digit : ∀ (k n : Nat),n <= k -> ∀ c ∈ decDigits n,48 <= c.toNat /\ c.toNat <= 57
 | 0,n,h,c,hc => by
  rw [Go.Lib.decDigits_one (by omega),List.mem_singleton] at hc;subst hc;rw [show n = 0 by omega];decide
 | k + 1,n,h,c,hc => by
  rw [decDigits.eq_def] at hc;split at hc
  ·rename_i h2
   rw [List.mem_singleton] at hc;subst hc;rw [UInt8.toNat_ofNat_of_lt' (show 48 + n < UInt8.size by show 48 + n < 256;omega)];omega
  ·rename_i h2
   rcases List.mem_append.1 hc with h3 | h3
   ·exact decDigits_digit k (n / 10) (by omega) c h3
   ·rw [List.mem_singleton] at h3;subst h3;have : n % 10 < 10:=Nat.mod_lt _ (by decide);rw [UInt8.toNat_ofNat_of_lt' (show 48 + n % 10 < UInt8.size by show 48 + n % 10 < 256;omega)];omega
def numFrom (n : List UInt8) (w : Nat) : Bool:=decide (∃ j : Nat,j < 21 /\ w <= j /\ n = decDigits j)
theorem numFrom_end (n : List UInt8) : numFrom n 21 = false:=by
 unfold numFrom;rw [decide_eq_false_iff_not];rintro ⟨j,h1,h2,_⟩;omega
theorem numFrom_hit (n : List UInt8) (w : Nat) (h1 : w <= 20) (h : n = decDigits w) : numFrom n w = true:=by
 unfold numFrom;rw [decide_eq_true_iff];exact ⟨w,by omega,Nat.le_refl _,h⟩
theorem numFrom_step (n : List UInt8) (w : Nat) (h : n ≠ decDigits w) : numFrom n w = numFrom n (w + 1):=by
 unfold numFrom;congr 1
 apply propext
 constructor
 ·rintro ⟨j,h1,h2,h3⟩;rcases Nat.lt_or_ge w j with h4 | h4
  ·exact ⟨j,h1,h4,h3⟩
  ·obtain rfl : w = j:=by omega
   exact absurd h3 h
 ·rintro ⟨j,h1,h2,h3⟩;exact ⟨j,h1,by omega,h3⟩
theorem numFrom_no (n : List UInt8) (w : Nat) (h : numFrom n w = true) : (64 : UInt8) ∉ n:=by
 unfold numFrom at h;rw [decide_eq_true_iff] at h;obtain ⟨j,_,_,rfl⟩:=h;intro h64;have:=decDigits_digit j j (Nat.le_refl _) _ h64;have h2 : (64 : UInt8).toNat = 64:=rfl;omega
theorem cut_first (a b : List UInt8) (h : (64 : UInt8) ∉ a) : cut (a ++ 64 :: b) [64] = (a,b,true):=by
 unfold Go.Lib.cut;rw [Go.Lib.index_one];have hg : (a ++ 64 :: b)[a.length]? = some 64:=by simp
 by_cases h0 : 0 <= indexByte (a ++ 64 :: b) 64
 ·obtain ⟨o,ho⟩ : ∃ o : Nat,indexByte (a ++ 64 :: b) 64 = o:=⟨(indexByte (a ++ 64 :: b) 64).toNat,by omega⟩
  obtain ⟨h1,h2⟩:=Go.Lib.indexByte_some ho;have : o = a.length:=by
   rcases Nat.lt_trichotomy o a.length with h3 | h3 | h3
   ·rw [List.getElem?_append_left h3] at h1;exact absurd (List.mem_of_getElem? h1) h
   ·exact h3
   ·exact absurd hg (h2 _ h3)
  rw [if_pos h0,ho,this];simp
 ·exact absurd hg (Go.Lib.indexByte_none (by have:=Go.Lib.indexByte_ge (a ++ 64 :: b) 64;omega) _)
def rightP (p : List UInt8 -> Bool) (l : List UInt8) : Bool:=(cut l [64]).2.2 && p (cut l [64]).1 && numFrom (cut l [64]).2.1 1
theorem first_split : ∀ (a : List UInt8),(64 : UInt8) ∈ a -> ∃ a1 a2,a = a1 ++ 64 :: a2 /\ (64 : UInt8) ∉ a1
 | [],h => by cases h
 | c :: t,h => by
  by_cases hc : c = 64
  ·subst hc;exact ⟨[],t,rfl,by simp⟩
  ·rcases List.mem_cons.1 h with e | e
   ·exact absurd e.symm hc
   ·obtain ⟨a1,a2,h1,h2⟩:=first_split t e;exact ⟨c :: a1,a2,by rw [h1];rfl,by simp [Ne.symm hc,h2]⟩
theorem rightP_last (p : List UInt8 -> Bool) (hp : ∀ a,p a = true -> (64 : UInt8) ∉ a) (a b : List UInt8) : rightP p (a ++ 64 :: b) = (p a && numFrom b 1):=by
 by_cases ha : (64 : UInt8) ∈ a
 ·obtain ⟨a1,a2,rfl,h1⟩:=first_split a ha;have h2 : p (a1 ++ 64 :: a2) = false:=by
   cases h : p (a1 ++ 64 :: a2) with
   | false => rfl
   | true => exact absurd (by simp) (hp _ h)
  have h3 : numFrom (a2 ++ 64 :: b) 1 = false:=by
   cases h : numFrom (a2 ++ 64 :: b) 1 with
   | false => rfl
   | true => exact absurd (by simp) (numFrom_no _ _ h)
  unfold rightP;rw [List.append_assoc,List.cons_append,cut_first _ _ h1,h2];simp [h3]
 ·unfold rightP;rw [cut_first _ _ ha];simp
end Tt
-- UidW
namespace Go.Proofs.YtageielcdebjlaaGreatDoor
open Go.RowKit
theorem code_no_at (a : List UInt8) (h : Tt.code a = true) : (64 : UInt8) ∉ a:=by
 intro hm;cases a with
 | nil => cases hm
 | cons c t =>
  unfold Tt.code at h;simp only [Bool.and_eq_true] at h;obtain ⟨⟨_,h1⟩,h2⟩:=h;rcases List.mem_cons.1 hm with e | e
  ·subst e;exact absurd h1 (by decide)
  ·unfold Tt.codeTail at h2;have:=List.all_eq_true.1 h2 64 e;exact absurd this (by decide)
def rightB (l : List UInt8) : Bool:=Tt.rightP Tt.code l
theorem of_data {s : ByteArray} {l : List UInt8} (h : s.data.toList = l) : s = ⟨l.toArray⟩:=by rw [<- h,Lib.mk_data]
theorem cut248 (s : ByteArray) (w : World) (hs : s.size <= 4611686018427387904) :
  Calls Tryz.prog 248 #[.string s,.string ⟨#[64]⟩] w fun e w' => e = .returned (.tuple #[.string ⟨(Lib.cut s.data.toList [64]).1.toArray⟩,.string ⟨(Lib.cut s.data.toList [64]).2.1.toArray⟩,.bool (Lib.cut s.data.toList [64]).2.2]) /\ ∃ n,w' = w.drewN n:=by
 have HI:=Lh (show Lib.index s.data.toList [64] = Lib.indexByte s.data.toList 64 from Lib.index_one _ _);have hge:=Lib.indexByte_ge s.data.toList 64;by_cases h0 : 0 <= Lib.indexByte s.data.toList 64
 ·obtain ⟨o,ho⟩ : ∃ o : Nat,Lib.indexByte s.data.toList 64 = o:=⟨(Lib.indexByte s.data.toList 64).toNat,by omega⟩
  have hlt : o < s.size:=by
   have:=List.getElem?_eq_some_iff.1 (Lib.indexByte_some ho).1;rw [Lib.size_eq];exact this.1
  have HC:=Lh (show Lib.cut s.data.toList [64] = (s.data.toList.take o,s.data.toList.drop (o + 1),true) by
   unfold Lib.cut;rw [HI.out,if_pos h0,ho];rfl)
  have HO:=Lh ho;have HE1:=Lh (of_data (Lib.extract_from_zero s o));have HE2:=Lh (of_data (Lib.extract_to_end s (o + 1)));clear h0 hge ho HI;go_enter Tryz.func248,Tryz.ntmps248;go_wp2_with fail;refine (Tryz.stringslite_Index_one s 64 _).mono ?_;rintro e w1 ⟨rfl,hw⟩;rw [hw,HO.out];clear hw w1;have g1 : (0 : Int) <= (o : Int):=by omega
  have g2 : (o : Int) <= (s.size : Int):=by omega
  have g3 : IntKind.i64.wrap ((o : Int) + 1) = (o : Int) + 1:=by rw [IntKind.wrap_i64];omega
  have g4 : ((o : Int) + 1).toNat = o + 1:=by omega
  have g5 : (o : Int) + 1 <= (s.size : Int):=by omega
  have g6 : (0 : Int) <= (o : Int) + 1:=by omega
  go_wp2_with fail;go_quiet (fail)
  clear g1 g2 g3 g4 g5 g6;go_wp2_with fail;refine bodyPost_ret (v:=.tuple #[.string (s.extract 0 o),.string (s.extract (o + 1) s.size),.bool true]) (by simp [results,Tryz.results248,go_sem]) rfl ?_;refine ⟨?_,_,rfl⟩;rw [HC.out,HE1.out,HE2.out]
 ·have HC:=Lh (show Lib.cut s.data.toList [64] = (s.data.toList,[],false) by
   unfold Lib.cut;rw [HI.out,if_neg h0])
  have HO:=Lh (show Lib.indexByte s.data.toList 64 = -1 by omega);clear h0 hge HI;go_enter Tryz.func248,Tryz.ntmps248;go_wp2_with fail;refine (Tryz.stringslite_Index_one s 64 _).mono ?_;rintro e w1 ⟨rfl,hw⟩;rw [hw,HO.out];clear hw w1;go_wp2_with fail;refine bodyPost_ret (v:=.tuple #[.string s,.string ⟨#[]⟩,.bool false]) (by simp [results,Tryz.results248,go_sem]) rfl ?_;refine ⟨?_,0,rfl⟩;rw [HC.out,Lib.mk_data]
theorem cut166 (s : ByteArray) (w : World) (hs : s.size <= 4611686018427387904) :
  Calls Tryz.prog 166 #[.string s,.string ⟨#[64]⟩] w fun e w' => e = .returned (.tuple #[.string ⟨(Lib.cut s.data.toList [64]).1.toArray⟩,.string ⟨(Lib.cut s.data.toList [64]).2.1.toArray⟩,.bool (Lib.cut s.data.toList [64]).2.2]) /\ ∃ n,w' = w.drewN n:=by
 go_enter Tryz.func166,Tryz.ntmps166;go_wp2_with fail;refine (cut248 s w hs).mono ?_;rintro e w1 ⟨rfl,n,hw⟩;rw [hw];clear hw w1;go_wp2_with fail;exact bodyPost_ret (v:=.tuple #[.string ⟨(Lib.cut s.data.toList [64]).1.toArray⟩,.string ⟨(Lib.cut s.data.toList [64]).2.1.toArray⟩,.bool (Lib.cut s.data.toList [64]).2.2]) (by simp [results,Tryz.results166,go_sem]) rfl ⟨rfl,_,rfl⟩
theorem right95 (s : ByteArray) (w : World) (hs : s.size <= 4611686018427387904) :
  Calls Tryz.prog 95 #[.string s] w fun e w' => e = .returned (.bool (rightB s.data.toList)) /\ Below w.heap.size w w':=by
 have HC:=Lh (cut166 s w hs);have HR:=Lh (show rightB s.data.toList = ((Lib.cut s.data.toList [64]).2.2 && Tt.code (Lib.cut s.data.toList [64]).1 && Tt.numFrom (Lib.cut s.data.toList [64]).2.1 1) from rfl);obtain ⟨a,ha⟩ : ∃ a,a = (Lib.cut s.data.toList [64]).1:=⟨_,rfl⟩
 obtain ⟨b,hb⟩ : ∃ b,b = (Lib.cut s.data.toList [64]).2.1:=⟨_,rfl⟩
 obtain ⟨f,hf⟩ : ∃ f,f = (Lib.cut s.data.toList [64]).2.2:=⟨_,rfl⟩
 have HA:=Lh ha;have HB:=Lh hb;have HF:=Lh hf;rw [<- ha,<- hb,<- hf] at HR;clear ha hb hf;go_enter Tryz.func95,Tryz.ntmps95;go_wp2_with fail;refine HC.out.mono ?_;rintro e w1 ⟨rfl,q,hw⟩;rw [hw];clear hw w1;rw [<- HA.out,<- HB.out,<- HF.out];cases hf : f
 ·have HE:=Lh (show rightB s.data.toList = false by rw [HR.out,hf];rfl);go_wp2_with fail;go_ret;exact ⟨ret_bool HE.out.symm,below_drew (Below.refl _ _)⟩
 ·go_wp2_with fail;refine (code_any ⟨a.toArray⟩ _).mono ?_;rintro e w1 ⟨rfl,hw⟩;rw [hw];clear hw w1;rw [show (⟨a.toArray⟩ : ByteArray).data.toList = a from rfl];cases hc : Tt.code a
  ·have HE:=Lh (show rightB s.data.toList = false by rw [HR.out,hf,hc];rfl);clear hf hc;go_wp2_with fail;go_ret;exact ⟨ret_bool HE.out.symm,below_drew (Below.refl _ _)⟩
  ·have HE:=Lh (show rightB s.data.toList = Tt.numFrom b 1 by rw [HR.out,hf,hc];rfl);clear hf hc;go_wp2_with fail;obtain ⟨w2,hw2,hB2,_,_⟩:=redrew w q;have hbe:=hB2 w.heap.size;rw [<- hw2];clear hw2 hB2;go_loopw [6] (fun iv wr => ∃ k : Nat,iv = .int .i64 k /\ 1 <= k /\ k <= 21 /\ wr = w2 /\ Hid (Tt.numFrom b 1 = Tt.numFrom b k)) (fun iv _ => 21 - (intOf iv).toNat)
   case atStart => exact ⟨1,rfl,by omega,by omega,rfl,rfl⟩
   case round =>
    obtain ⟨k,rfl,hk1,hk2,hw,HK⟩:=hrel;subst hw;by_cases hlt : k <= 20
    ·have hki : (k : Int) <= 20:=by omega
     go_wp2_with fail;refine (Tryz.strconv_Itoa_small k (by omega) _).mono ?_;rintro e w1 ⟨rfl,hw⟩;rw [hw];clear hw w1;by_cases he : b = Lib.decDigits k
     ·have ht : (b == Lib.decDigits k) = true:=beq_iff_eq.2 he;have HT:=Lh (HE.out.trans (HK.out.trans (Tt.numFrom_hit b k hlt he)));clear he;go_wp2_with fail;go_ret;exact ⟨ret_bool HT.out.symm,hbe⟩
     ·have ht : (b == Lib.decDigits k) = false:=beq_eq_false_iff_ne.2 he;have HT:=Lh (HK.out.trans (Tt.numFrom_step b k he));clear he;go_wp2_with fail;go_roundw
      case rel => exact ⟨k + 1,by go_num,by omega,by omega,by first | rfl | trivial,HT.out⟩
      case measure => simp [intOf];omega
    ·have hki : ¬ (k : Int) <= 20:=by omega
     have HT:=Lh (show rightB s.data.toList = false from HE.out.trans (HK.out.trans (by rw [show k = 21 by omega];exact Tt.numFrom_end b)));go_wp2_with fail;go_ret;exact ⟨ret_bool HT.out.symm,hbe⟩
theorem one_byte (w : World) (c : UInt8) (z : Int) (hz : z = c.toNat) : (convert 76 9 (.slice (some ⟨w.heap.size,0,none⟩) 1 1)).run Tryz.prog (w.alloc (.cells #[.int .u8 z] 5)) = .ok (.string ⟨#[c]⟩) (w.alloc (.cells #[.int .u8 z] 5)):=by
 subst hz;exact string_of_row (l:=[c]) (World.ownsRow_lit w #[.int .u8 c.toNat] 1 (Nat.le_refl _) (by decide) rfl)
theorem ofNat_digit (k : Nat) : 48 + (k : Int) % 10 = ((UInt8.ofNat (48 + k % 10)).toNat : Int):=by
 have : k % 10 < 10:=Nat.mod_lt _ (by decide);rw [UInt8.toNat_ofNat_of_lt' (show 48 + k % 10 < UInt8.size by show 48 + k % 10 < 256;omega)];omega
theorem str_cons (c : UInt8) (l : List UInt8) : (⟨#[c]⟩ : ByteArray) ++ ⟨l.toArray⟩ = ⟨(c :: l).toArray⟩:=by apply ByteArray.ext;simp
theorem size_mk (l : List UInt8) : (⟨l.toArray⟩ : ByteArray).size = l.length:=by rw [Lib.size_eq]
theorem decimal110 (n m : Int) (w : World) (h0 : 0 <= n) (h1 : n <= 4611686018427387904) (hm : m <= 1000) (hm0 : 0 <= m) :
  Calls Tryz.prog 110 #[.int .i64 n,.int .i64 m] w fun e w' => e = .returned (.string ⟨(Tt.decim n.toNat m.toNat []).toArray⟩) /\ Below w.heap.size w w':=by
 go_enter Tryz.func110,Tryz.ntmps110;go_wp2_with fail;go_loopw [0,1,5] (fun nv mv sv wr => ∃ (k : Nat) (j : Int) (acc : List UInt8),nv = .int .i64 k /\ mv = .int .i64 j /\ sv = .string ⟨acc.toArray⟩ /\ m <= j + acc.length /\ j <= 1000 /\ (k : Int) <= 4611686018427387904 /\ (acc.length : Int) + k + j.toNat <= n + m /\ Below w.heap.size w wr /\ Hid (Tt.decim n.toNat m.toNat [] = Tt.decim k j.toNat acc)) (fun nv mv _ _ => (intOf nv).toNat + (intOf mv).toNat)
 case atStart => exact ⟨n.toNat,m,[],by go_num,rfl,rfl,by omega,by omega,by omega,by simp;omega,Below.refl _ _,rfl⟩
 case round =>
  obtain ⟨k,j,acc,rfl,rfl,rfl,hj1,hj2,hk,hl,hbe,HD⟩:=hrel;by_cases hend : k = 0 /\ j <= 0
  ·obtain ⟨rfl,hj0⟩:=hend;have hj : ¬ 0 < j:=by omega
   have HE:=Lh (show Tt.decim n.toNat m.toNat [] = acc from HD.out.trans (by rw [show j.toNat = 0 by omega];exact Tt.decim_end acc));go_wp2_with fail;go_ret;exact ⟨ret_str HE.out.symm,hbe⟩
  ·obtain ⟨c,hc⟩ : ∃ c,c = UInt8.ofNat (48 + k % 10):=⟨_,rfl⟩
   have HE:=Lh (HD.out.trans (Tt.decim_step k j.toNat acc (by omega)));have hcz:=ofNat_digit k;rw [<- hc] at HE hcz;have HZ:=Lh hcz;clear hc hcz;have hacc:=size_mk acc;by_cases hk0 : k = 0
   ·subst hk0;have hj : 0 < j:=by omega
    have hcv:=one_byte wr c 48 HZ.out;clear hend;go_wp2_with fail;go_roundw
    case rel => exact ⟨0,j - 1,c :: acc,rfl,rfl,by rw [str_cons],by simp;omega,by omega,by omega,by simp;omega,hbe.alloc (by have:=hbe.size;omega) _,HE.out.trans (by rw [show (j - 1).toNat = j.toNat - 1 by omega])⟩
    case measure => simp [intOf];omega
   ·have hk1 : (0 : Int) < k:=by omega
    have hcv:=one_byte wr c _ HZ.out;clear hend;go_wp2_with fail;go_roundw
    case rel => exact ⟨k / 10,j - 1,c :: acc,by go_num,rfl,by rw [str_cons],by simp;omega,by omega,by omega,by simp;omega,hbe.alloc (by have:=hbe.size;omega) _,HE.out.trans (by rw [show (j - 1).toNat = j.toNat - 1 by omega])⟩
    case measure => simp [intOf];omega
end Go.Proofs.YtageielcdebjlaaGreatDoor
-- UidW2
namespace Tt
def labC (c : UInt8) : Bool:=c == 10 || (decide (32 <= c.toNat) && decide (c.toNat <= 126))
def labB (l : List UInt8) : Bool:=l.all labC && decide (l.length <= 64)
theorem all_step (p : UInt8 -> Bool) (l : List UInt8) (k : Nat) (c : UInt8) (h : l[k]? = some c) : (l.drop k).all p = (p c && (l.drop (k + 1)).all p):=by
 obtain ⟨g1,g2⟩:=List.getElem?_eq_some_iff.1 h;rw [List.drop_eq_getElem_cons g1,g2,List.all_cons]
theorem all_end (p : UInt8 -> Bool) (l : List UInt8) (k : Nat) (h : l.length <= k) : (l.drop k).all p = true:=by rw [List.drop_eq_nil_of_le h];rfl
theorem sign_alnum (c : UInt8) (h : sign c = true) : alnum c = false:=by
 unfold sign at h;rw [Bool.or_eq_true,beq_iff_eq,beq_iff_eq] at h;rcases h with rfl | rfl <;> rfl
theorem code_ref (c : UInt8) (r : List UInt8) : code (c :: r) = (decide ((c :: r).length <= 16) && !sign c && codeTail (c :: r)):=by
 show (decide ((c :: r).length <= 16) && alnum c && codeTail r) = _
 unfold codeTail;rw [List.all_cons];cases hs : sign c
 ·cases alnum c <;> simp
 ·rw [sign_alnum c hs];simp
end Tt
namespace Go.Proofs.YtageielcdebjlaaGreatDoor
open Go.RowKit
theorem digit168 (n : Int) (c : UInt8) (hn : n = c.toNat) (w : World) : Calls Tryz.prog 168 #[.int .u8 n] w fun e w' => e = .returned (.bool (digitB c)) /\ w' = w:=by
 have HD:=Lh (show digitB c = (decide ((48 : Int) <= n) && decide (n <= (57 : Int))) by
  have h1:=u8_le c 48 (by omega);have h2:=u8_ge c 57 (by omega);rw [hn,show (48 : Int) = ((48 : Nat) : Int) from rfl,show (57 : Int) = ((57 : Nat) : Int) from rfl,h1,h2];rfl)
 clear hn;go_enter Tryz.func168,Tryz.ntmps168;go_wp2_with fail
 all_goals
  go_ret;exact ⟨ret_bool (by rw [HD.out];simp;omega),rfl⟩
theorem letter169 (n : Int) (c : UInt8) (hn : n = c.toNat) (w : World) : Calls Tryz.prog 169 #[.int .u8 n] w fun e w' => e = .returned (.bool (letterB c)) /\ w' = w:=by
 have HD:=Lh (show letterB c = ((decide ((65 : Int) <= n) && decide (n <= (90 : Int))) || (decide ((97 : Int) <= n) && decide (n <= (122 : Int)))) by
  have h1:=u8_le c 65 (by omega);have h2:=u8_ge c 90 (by omega);have h3:=u8_le c 97 (by omega);have h4:=u8_ge c 122 (by omega);rw [hn,show (65 : Int) = ((65 : Nat) : Int) from rfl,show (90 : Int) = ((90 : Nat) : Int) from rfl,show (97 : Int) = ((97 : Nat) : Int) from rfl,show (122 : Int) = ((122 : Nat) : Int) from rfl,h1,h2,h3,h4];rfl)
 clear hn;go_enter Tryz.func169,Tryz.ntmps169;go_wp2_with fail
 all_goals
  go_ret;exact ⟨ret_bool (by rw [HD.out,Bool.eq_iff_iff];first | (simp;omega) | (simp only [Bool.or_eq_true,Bool.and_eq_true,decide_eq_true_iff];omega)),rfl⟩
theorem code_long (l : List UInt8) (h : ¬ (1 <= l.length /\ l.length <= 16)) : Tt.code l = false:=by
 cases l with
 | nil => rfl
 | cons c r =>
  show (decide ((c :: r).length <= 16) && Tt.alnum c && Tt.codeTail r) = false
  rw [decide_eq_false (by simp only [List.length_cons] at h ⊢;omega)];rfl
theorem code97 (s : ByteArray) (w : World) : Calls Tryz.prog 97 #[.string s] w fun e w' => e = .returned (.bool (Tt.code s.data.toList)) /\ w' = w:=by
  have HL:=Lh (Lib.size_eq s);by_cases h1 : 1 <= s.size /\ s.size <= 16
  · obtain ⟨h1,h2⟩:=h1;have q1 : decide ((s.size : Int) < 1) = false:=decide_eq_false (by omega);have q2 : decide ((16 : Int) < (s.size : Int)) = false:=decide_eq_false (by omega);have q3 : 0 < s.size:=h1;obtain ⟨c,hx⟩ : ∃ c : UInt8,s[0]'q3 = c:=⟨_,rfl⟩
    have hcl : s.data.toList[0]? = some c:=by rw [<- hx];exact Lib.data_getElem? s 0 q3
    have HC:=Lh (show Tt.code s.data.toList = (!Tt.sign c && Tt.codeTail (s.data.toList.drop 0)) by
      have hl:=HL.out;cases hh : s.data.toList with
      | nil => rw [hh] at hcl;cases hcl
      | cons c' r =>
        rw [hh] at hcl hl;obtain rfl : c' = c:=by simpa using hcl
        rw [Tt.code_ref,decide_eq_true (by rw [<- hl];exact h2)];rfl)
    clear hcl;by_cases s1 : c = 95
    · have t1:=byte_eq c 95 95 rfl s1;have HE:=Lh (show Tt.code s.data.toList = false by rw [HC.out,s1];rfl);clear s1;go_enter Tryz.func97,Tryz.ntmps97;go_wp2_with fail;go_ret;exact ⟨ret_bool HE.out.symm,rfl⟩
    · have t1:=byte_ne c 95 95 rfl s1;by_cases s2 : c = 45
      · have t2:=byte_eq c 45 45 rfl s2;have HE:=Lh (show Tt.code s.data.toList = false by rw [HC.out,s2];rfl);clear s1 s2;go_enter Tryz.func97,Tryz.ntmps97;go_wp2_with fail;go_ret;exact ⟨ret_bool HE.out.symm,rfl⟩
      · have t2:=byte_ne c 45 45 rfl s2;have HE:=Lh (show Tt.code s.data.toList = (s.data.toList.drop 0).all (fun c => Tt.alnum c || Tt.sign c) by
          rw [HC.out,show Tt.sign c = false by unfold Tt.sign;rw [beq_eq_false_iff_ne.2 s1,beq_eq_false_iff_ne.2 s2];rfl];rfl)
        clear s1 s2;go_enter Tryz.func97,Tryz.ntmps97;go_wp2_with fail;clear t1 t2 hx;go_loop [3] (fun i => ∃ k : Nat,k <= s.size /\ i = .int .i64 k /\ Hid (Tt.code s.data.toList = (s.data.toList.drop k).all (fun c => Tt.alnum c || Tt.sign c))) (fun i => s.size - (intOf i).toNat)
        case atStart => exact ⟨0,Nat.zero_le _,rfl,HE.out⟩
        case round =>
          obtain ⟨k,hk,rfl,HK⟩:=hrel;by_cases hlt : k < s.size
          · obtain ⟨c,hx⟩ : ∃ c : UInt8,s[k]'hlt = c:=⟨_,rfl⟩
            have hcl:=Lib.data_getElem? s k hlt;rw [hx] at hcl;have HS:=Lh (HK.out.trans (Tt.all_step _ _ _ _ hcl));have HA:=Lh (alnum_eq c);clear hcl;have hkinds : (digitB c = true /\ Hid ((Tt.alnum c || Tt.sign c) = true)) ∨ (digitB c = false /\ letterB c = true /\ Hid ((Tt.alnum c || Tt.sign c) = true)) ∨
                (digitB c = false /\ letterB c = false /\ ((c.toNat : Int) != 95) = false /\ Hid ((Tt.alnum c || Tt.sign c) = true)) ∨
                (digitB c = false /\ letterB c = false /\ ((c.toNat : Int) != 95) = true /\ ((c.toNat : Int) != 45) = false /\ Hid ((Tt.alnum c || Tt.sign c) = true)) ∨
                (digitB c = false /\ letterB c = false /\ ((c.toNat : Int) != 95) = true /\ ((c.toNat : Int) != 45) = true /\ Hid ((Tt.alnum c || Tt.sign c) = false)):=by
              cases e1 : digitB c
              · cases e2 : letterB c
                · by_cases e3 : c = 95
                  · exact .inr (.inr (.inl ⟨rfl,rfl,by simp [e3],by show _ = _;rw [e3];rfl⟩))
                  · have b1 : ((c.toNat : Int) != 95) = true:=by have:=byte_ne c 95 95 rfl e3;simp only [bne,this];rfl
                    by_cases e4 : c = 45
                    · exact .inr (.inr (.inr (.inl ⟨rfl,rfl,b1,by simp [e4],by show _ = _;rw [e4];rfl⟩)))
                    · have b2 : ((c.toNat : Int) != 45) = true:=by have:=byte_ne c 45 45 rfl e4;simp only [bne,this];rfl
                      refine .inr (.inr (.inr (.inr ⟨rfl,rfl,b1,b2,?_⟩)));show _ = _
                      rw [HA.out,e1,e2];unfold Tt.sign;rw [beq_eq_false_iff_ne.2 e3,beq_eq_false_iff_ne.2 e4];rfl
                · exact .inr (.inl ⟨rfl,rfl,by show _ = _;rw [HA.out,e1,e2];rfl⟩)
              · exact .inl ⟨rfl,by show _ = _;rw [HA.out,e1];rfl⟩
            clear HA;rcases hkinds with ⟨d1,DS⟩ | ⟨d1,d2,DS⟩ | ⟨d1,d2,d3,DS⟩ | ⟨d1,d2,d3,d4,DS⟩ | ⟨d1,d2,d3,d4,DS⟩
            all_goals
              go_wp2_with (first | (go_at_call 168;refine (digit168 _ c rfl _).mono ?_;rintro e w' ⟨rfl,rfl⟩) | (go_at_call 169;refine (letter169 _ c rfl _).mono ?_;rintro e w' ⟨rfl,rfl⟩));first
                | (go_ret
                   exact ⟨ret_bool (by rw [HS.out,DS.out];rfl),rfl⟩)
                | (go_round
                   case rel => exact ⟨k + 1,by omega,by go_num,by show _ = _;rw [HS.out,DS.out];rfl⟩
                   case measure => simp [intOf];omega)
          · go_wp2_with fail;go_ret;exact ⟨ret_bool (by rw [HK.out,Tt.all_end _ _ _ (by rw [<- HL.out];omega)]),rfl⟩
  · have HC:=Lh (code_long s.data.toList (by rw [<- HL.out];exact h1));by_cases e : 1 <= s.size
    · have q1 : decide ((s.size : Int) < 1) = false:=decide_eq_false (by omega);have q2 : decide ((16 : Int) < (s.size : Int)) = true:=decide_eq_true (by omega);clear h1;go_enter Tryz.func97,Tryz.ntmps97;go_wp2_with fail;go_ret;exact ⟨ret_bool (by rw [HC.out]),rfl⟩
    · have q1 : decide ((s.size : Int) < 1) = true:=decide_eq_true (by omega);clear h1;go_enter Tryz.func97,Tryz.ntmps97;go_wp2_with fail;go_ret;exact ⟨ret_bool (by rw [HC.out]),rfl⟩
end Go.Proofs.YtageielcdebjlaaGreatDoor
-- UidW3
namespace Go.Proofs.YtageielcdebjlaaGreatDoor
open Go.RowKit
theorem lab_kinds (c : UInt8) : (((c.toNat : Int) != 10) = false /\ c.toNat = 10 /\ Hid (Tt.labC c = true)) ∨
  (((c.toNat : Int) != 10) = true /\ (c.toNat : Int) < 32 /\ Hid (Tt.labC c = false)) ∨
  (((c.toNat : Int) != 10) = true /\ ¬ (c.toNat : Int) < 32 /\ (126 : Int) < c.toNat /\ Hid (Tt.labC c = false)) ∨
  (((c.toNat : Int) != 10) = true /\ ¬ (c.toNat : Int) < 32 /\ ¬ (126 : Int) < c.toNat /\ Hid (Tt.labC c = true)):=by
 by_cases e : c = 10
 ·subst e;exact .inl ⟨rfl,rfl,by show _ = _;rfl⟩
 ·have b1 : ((c.toNat : Int) != 10) = true:=by have:=byte_ne c 10 10 rfl e;simp only [bne,this];rfl
  right
  by_cases h1 : (c.toNat : Int) < 32
  ·refine .inl ⟨b1,h1,?_⟩;show _ = _
   unfold Tt.labC;rw [beq_eq_false_iff_ne.2 e,decide_eq_false (by omega)];rfl
  ·by_cases h2 : (126 : Int) < c.toNat
   ·refine .inr (.inl ⟨b1,h1,h2,?_⟩);show _ = _
    unfold Tt.labC;rw [beq_eq_false_iff_ne.2 e,decide_eq_false (show ¬ c.toNat <= 126 by omega)];simp
   ·refine .inr (.inr ⟨b1,h1,h2,?_⟩);show _ = _
    unfold Tt.labC;rw [decide_eq_true (by omega),decide_eq_true (by omega)];simp
theorem label167 (s : ByteArray) (w : World) (hs : s.size <= 4611686018427387904) : Calls Tryz.prog 167 #[.string s] w fun e w' => e = .returned (.bool (Tt.labB s.data.toList)) /\ Below w.heap.size w w':=by
  have HL:=Lh (Lib.size_eq s);have HB:=Lh (show Tt.labB s.data.toList = ((s.data.toList.drop 0).all Tt.labC && decide ((s.size : Int) <= 64)) by
    unfold Tt.labB;rw [<- HL.out];congr 1;rw [decide_eq_decide];omega)
  obtain ⟨cap,W,hconv,hb0,hsz,hcell⟩:=bytes_of s w;have HCELL:=Lh hcell;clear hcell;go_enter Tryz.func167,Tryz.ntmps167;go_wp2_with fail;clear hconv;go_loop [8] (fun i => ∃ k : Nat,k <= s.size /\ i = .int .i64 k /\ Hid ((s.data.toList.drop 0).all Tt.labC = (s.data.toList.drop k).all Tt.labC)) (fun i => s.size - (intOf i).toNat)
  case atStart => exact ⟨0,Nat.zero_le _,rfl,rfl⟩
  case round =>
    obtain ⟨k,hk,rfl,HK⟩:=hrel;by_cases hlt : k < s.size
    · obtain ⟨c,hcl⟩ : ∃ c,s.data.toList[k]? = some c:=⟨_,List.getElem?_eq_getElem (by rw [<- HL.out];exact hlt)⟩
      have hcc:=HCELL.out k c hcl;have HS:=Lh (HK.out.trans (Tt.all_step _ _ _ _ hcl));clear hcl;have hki : (k : Int) < (s.size : Int):=by omega
      have hcb:=UInt8.toNat_lt c;rcases lab_kinds c with ⟨d1,d2,DS⟩ | ⟨d1,d2,DS⟩ | ⟨d1,d2,d3,DS⟩ | ⟨d1,d2,d3,DS⟩
      all_goals
        go_wp2_with fail;first
          | (go_ret
             exact ⟨ret_bool (by rw [HB.out,HS.out,DS.out];rfl),hb0⟩)
          | (go_round
             case rel => exact ⟨k + 1,by omega,by go_num,by show _ = _;rw [HS.out,DS.out];rfl⟩
             case measure => simp [intOf];omega)
    · have hki : ¬ (k : Int) < (s.size : Int):=by omega
      go_wp2_with fail;go_ret;exact ⟨ret_bool (by rw [HB.out,HK.out,Tt.all_end _ _ _ (by rw [<- HL.out];omega)];rfl),hb0⟩
end Go.Proofs.YtageielcdebjlaaGreatDoor
-- Ev
namespace Go.Proofs.YtageielcdebjlaaGreatDoor
structure Ev where
 uid : ByteArray
 seq : Int
 canc : Bool
 days : Tt.Ser
 start : Int
 mins : Int
 summ : ByteArray
 loc : ByteArray
def checkV (e : Ev) (v : Int) : Int :=
 if e.seq < 1 ∨ v < e.seq then 3
 else if Tt.serV e.days ≠ 0 then Tt.serV e.days
 else if Tt.serDays e.days = [] then 16
 else if e.start < 0 ∨ 1440 <= e.start ∨ e.mins < 1 ∨ 1440 < e.mins then 14
 else if e.summ.size = 0 ∨ Tt.labB e.summ.data.toList = false ∨ Tt.labB e.loc.data.toList = false then 4
 else 0
def lateU : Option ByteArray -> ByteArray -> Bool
 | none,_ => false
 | some p,u => Op.bytesLess u.toList p.toList || u.toList == p.toList
def evsV (v : Int) : Option ByteArray -> List Ev -> Int
 | _,[] => 0
 | p,e :: r => if rightB e.uid.data.toList = false then 4 else if lateU p e.uid = true then 63 else if checkV e v ≠ 0 then checkV e v else evsV v (some e.uid) r
def feedV (n : ByteArray) (v : Int) (es : List Ev) : Int :=
 if Tt.code n.data.toList = false then 10
 else if v < 0 ∨ 64 < v then 3
 else if 256 < (es.length : Int) then 2
 else evsV v none es
def prevU (es : List Ev) (k : Nat) : Option ByteArray:=if k = 0 then none else es[k - 1]?.map (·.uid)
theorem prevU_succ (es : List Ev) (k : Nat) (e : Ev) (h : es[k]? = some e) : prevU es (k + 1) = some e.uid:=by unfold prevU;simp [h]
def evsF (v : Int) (es : List Ev) (k : Nat) : Int:=evsV v (prevU es k) (es.drop k)
theorem evsF_cons (v : Int) (es : List Ev) (k : Nat) (e : Ev) (h : es[k]? = some e) :
  evsF v es k = if rightB e.uid.data.toList = false then 4 else if lateU (prevU es k) e.uid = true then 63 else if checkV e v ≠ 0 then checkV e v else evsF v es (k + 1):=by
 obtain ⟨g1,g2⟩:=List.getElem?_eq_some_iff.1 h;unfold evsF;rw [List.drop_eq_getElem_cons g1,g2,evsV,prevU_succ es k e h]
theorem evsF_end (v : Int) (es : List Ev) (k : Nat) (h : es.length <= k) : evsF v es k = 0:=by
 unfold evsF;rw [List.drop_eq_nil_of_le h];unfold evsV;rfl
end Go.Proofs.YtageielcdebjlaaGreatDoor
-- UidW4
namespace Go.Proofs.YtageielcdebjlaaGreatDoor
open Go.RowKit
end Go.Proofs.YtageielcdebjlaaGreatDoor
