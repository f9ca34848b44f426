/- The program's date (function 258) on the text of a day. Numbers written and read again. The reference's parser in plain words: numbers, times, an event line by line; and its functions begins and number. Copies between rows of structs in memory. No function of the program in sight. Condition: none. Events in a row of one's own, what they refer to in rows of its own: laid in, written over. No function of the program in sight. Condition: none. The program's weekdays (function 257): exact. The reference's parser of rules, in plain words; its number (263). The parser's text: exact. The library's Atoi at any text: laid at this dump. The parser on any line: days of any numbers, numbers of any text, what is taken from any line. Names of weekdays written and read again. -/
import Derived.Test.YtcomifbfldoeiaaGreatDoorPk20
import Derived.Test.YtcomifbfldoeiaaGreatDoorQk4
import Derived.Test.YtcomifbfldoeiaaGreatDoorProg
import Derived.WalkKit
import Derived.Lib.Hide
import Derived.Deep.QuietTactic
import Derived.BigQuiet
import Derived.Deep.RegionLaw
import Derived.Laws.CopyRow
import Derived.Laws.CopyOwn
import Derived.Laws.IdiomCopy
import Derived.Lib.AppendZerosOnto
import Derived.Lib.Overlaps
import Derived.Maps.AppendAt
import Derived.Laws.Externs
import Derived.Laws.NewBlocks
import Derived.Test.YtcomifbfldoeiaaGreatDoorQk10
import Derived.Test.YtcomifbfldoeiaaGreatDoorQk7
import Derived.Test.YtcomifbfldoeiaaGreatDoorShelf
import Derived.Shelf.Strconv.AtoiAll
import Derived.Test.YtcomifbfldoeiaaGreatDoorQk11
open Array renaming getElem?_eq_some_iff->xa
open List renaming append_assoc->xb,length_drop->xc,length_append->xd,length_take->xg,cons_append->xj,mem_append->xk,append_nil->xl
open Nat renaming le_trans->xe,lt_of_lt_of_le->xf,zero_le->xh,zero_add->xm,le_refl->xn
open Go.World.ownsRow renaming alloc->xi
set_option maxRecDepth 100000
set_option maxHeartbeats 40000000
namespace Tt
theorem ofNat_toNat {n : Nat} (h : n < 10) : ((UInt8.ofNat (48 + n)).toNat : Int) = 48 + n:=by
 rw [UInt8.toNat_ofNat'];omega
theorem date_digit {d : Int} {y m e X : Nat} (hy : y = (yOf d).toNat) (hm : m = (mOf d).toNat) (he : e = (dOf d).toNat) (y0 : 2000 <= y) (y1 : y <= 2099) (m1 : m <= 12) (e1 : e <= 31) (hX : X = y * 10000 + m * 100 + e) {k : Nat} (hk : k < 8) :
  ∃ c,(dateL d)[k]? = some c /\ ((c.toNat : Int) = 48 + ((X / 10 ^ (7 - k) % 10 : Nat) : Int)) /\ X / 10 ^ (8 - (k + 1)) = 10 * (X / 10 ^ (8 - k)) + X / 10 ^ (7 - k) % 10:=by
 unfold dateL d4 d2;rw [<- hy,<- hm,<- he];match k,hk with
 | 0,_ => exact ⟨_,rfl,by rw [ofNat_toNat (by omega)];simp only [Nat.sub_zero,Nat.reducePow];omega,by simp only [Nat.sub_zero,Nat.reduceAdd,Nat.reduceSub,Nat.reducePow];omega⟩
 | 1,_ => exact ⟨_,rfl,by rw [ofNat_toNat (by omega)];simp only [Nat.reduceSub,Nat.reducePow];omega,by simp only [Nat.reduceAdd,Nat.reduceSub,Nat.reducePow];omega⟩
 | 2,_ => exact ⟨_,rfl,by rw [ofNat_toNat (by omega)];simp only [Nat.reduceSub,Nat.reducePow];omega,by simp only [Nat.reduceAdd,Nat.reduceSub,Nat.reducePow];omega⟩
 | 3,_ => exact ⟨_,rfl,by rw [ofNat_toNat (by omega)];simp only [Nat.reduceSub,Nat.reducePow];omega,by simp only [Nat.reduceAdd,Nat.reduceSub,Nat.reducePow];omega⟩
 | 4,_ => exact ⟨_,rfl,by rw [ofNat_toNat (by omega)];simp only [Nat.reduceSub,Nat.reducePow];omega,by simp only [Nat.reduceAdd,Nat.reduceSub,Nat.reducePow];omega⟩
 | 5,_ => exact ⟨_,rfl,by rw [ofNat_toNat (by omega)];simp only [Nat.reduceSub,Nat.reducePow];omega,by simp only [Nat.reduceAdd,Nat.reduceSub,Nat.reducePow];omega⟩
 | 6,_ => exact ⟨_,rfl,by rw [ofNat_toNat (by omega)];simp only [Nat.reduceSub,Nat.reducePow];omega,by simp only [Nat.reduceAdd,Nat.reduceSub,Nat.reducePow];omega⟩
 | 7,_ => exact ⟨_,rfl,by rw [ofNat_toNat (by omega)];simp only [Nat.reduceSub,Nat.reducePow];omega,by simp only [Nat.reduceAdd,Nat.reduceSub,Nat.reducePow];omega⟩
end Tt
namespace Go.Proofs.YtcomifbfldoeiaaGreatDoor
open Go.RowKit
theorem date258 (s : ByteArray) (d : Int) (w : World) (hs : s.data.toList = Tt.dateL d) (h0 : 0 <= d) (h1 : d <= 36524) (hL : Lens w) (hw : 6 < w.heap.size) :
  Calls Tryz.prog 239 #[.string s] w fun e w' => e = .returned (.tuple #[.int .i64 d,.bool true]) /\ Below w.heap.size w w':=by
 obtain ⟨y0,y1,m0,m1,d0,d1⟩:=Tt.date_toNat h0 h1;have hdv:=(Tt.date_some h0 h1).day;have zs : s.size = 8:=by rw [Lib.size_eq,hs];rfl
 obtain ⟨cap,W,hconv,hb0,hsz,hcell⟩:=bytes_of s w;obtain ⟨y,hy⟩ : ∃ y,y = (Tt.yOf d).toNat:=⟨_,rfl⟩
 obtain ⟨m,hm⟩ : ∃ y,y = (Tt.mOf d).toNat:=⟨_,rfl⟩
 obtain ⟨q,hq⟩ : ∃ y,y = (Tt.dOf d).toNat:=⟨_,rfl⟩
 obtain ⟨X,hX⟩ : ∃ X,X = y * 10000 + m * 100 + q:=⟨_,rfl⟩
 have HDG : Hid (∀ k,k < 8 -> ∃ c : UInt8,s.data.toList[k]? = some c /\ ((c.toNat : Int) = 48 + ((X / 10 ^ (7 - k) % 10 : Nat) : Int)) /\ X / 10 ^ (8 - (k + 1)) = 10 * (X / 10 ^ (8 - k)) + X / 10 ^ (7 - k) % 10):=Lh (fun k hk => by rw [hs];exact Tt.date_digit hy hm hq (by omega) (by omega) (by omega) (by omega) hX hk);have HDV:=Lh (show Tt.dayV ((X : Int) / 10000) ((X : Int) / 100 % 100) ((X : Int) % 100) = (d,0) from by
  rw [show (X : Int) / 10000 = Tt.yOf d by omega,show (X : Int) / 100 % 100 = Tt.mOf d by omega,show (X : Int) % 100 = Tt.dOf d by omega];exact hdv)
 have hXb : X <= 20991231:=by omega
 have HW:=Lh hb0;have HCE:=Lh hcell;have HLW:=Lh (hL.below hw hb0);clear hdv hs hL hy hm hq hX y0 y1 m0 m1 d0 d1 hb0 hcell;go_enter Tryz.func239,Tryz.ntmps239;go_wp2_with fail;clear hconv;go_loopw [4,15] (fun nv iv wr => ∃ (k v : Nat),k <= 8 /\ iv = .int .i64 k /\ nv = .int .i64 v /\ v <= X /\ Hid (v = X / 10 ^ (8 - k)) /\ Hid (wr = W)) (fun _ iv _ => 8 - (intOf iv).toNat)
 case atStart => exact ⟨0,0,xh _,rfl,rfl,xh _,Lh (by show 0 = X / 100000000;omega),Lh rfl⟩
 case round =>
  obtain ⟨k,v,hk,rfl,rfl,hv,HV,HWR⟩:=hrel;by_cases hlt : k < 8
  ·obtain ⟨c,hc,hcn,hst⟩:=HDG.out k hlt;have hcc:=HCE.out k c hc;rw [<- HWR.out] at hcc;obtain ⟨n,hn⟩ : ∃ n : Int,n = c.toNat:=⟨_,rfl⟩
   rw [<- hn] at hcc hcn;have hn0 : ¬ n < 48:=by omega
   have hn1 : ¬ 57 < n:=by omega
   have hn2 : 0 <= n - 48 /\ n - 48 <= 9:=by omega
   obtain ⟨v',hv'⟩ : ∃ v',v' = X / 10 ^ (8 - (k + 1)):=⟨_,rfl⟩
   have hvv : (10 * (v : Int) + (n - 48)) = (v' : Int):=by rw [hv',hst,hcn,HV.out];omega
   have hvX : v' <= X:=by rw [hv'];exact Nat.div_le_self _ _
   have HVV:=Lh hv';have hki : (k : Int) < 8:=by omega
   clear hc hcn hst hn hv';go_wp2_with fail;go_roundw
   case rel => exact ⟨k + 1,v',by omega,by go_num,by go_num,hvX,HVV,HWR⟩
   case measure => simp [intOf];omega
  ·have hk8 : k = 8:=by omega
   have hvX : v = X:=by rw [HV.out,hk8];show X / 10 ^ 0 = X;omega
   have hki : ¬ (k : Int) < 8:=by omega
   have hwr:=HWR.out;subst hwr;subst hvX;clear HV hv HDG HCE;go_wp2_with fail;refine (day255 _ _ _ wr HLW.out (by omega) (by omega)).mono ?_;rintro e w1 ⟨rfl,rfl⟩;rw [HDV.out];go_wp2_with fail;go_ret2;exact ⟨rfl,HW.out⟩
end Go.Proofs.YtcomifbfldoeiaaGreatDoor
namespace Tt
open Go.Lib
theorem decFrom_snoc (b : UInt8) (d : Nat) (hd : digitVal b = some d) : ∀ (l : List UInt8) (acc n : Nat),decFrom acc l = some n -> decFrom acc (l ++ [b]) = some (n * 10 + d)
 | [],acc,n,h => by
  cases h;rw [List.nil_append,decFrom,hd];rfl
 | a :: t,acc,n,h => by
  rw [xj,decFrom];rw [decFrom] at h;cases ha : digitVal a with
  | none => rw [ha] at h;cases h
  | some e => rw [ha] at h;exact decFrom_snoc b d hd t _ n h
theorem digit_val {n : Nat} (h : n < 10) : digitVal (UInt8.ofNat (48 + n)) = some n:=(show ∀ n : Nat,n < 10 -> digitVal (UInt8.ofNat (48 + n)) = some n by decide) n h
theorem decFrom_dec (n : Nat) : decFrom 0 (decDigits n) = some n:=by
 by_cases h : n < 10
 ·rw [decDigits_one h,decFrom,digit_val h];show some (0 * 10 + n) = some n
  rw [Nat.zero_mul,xm]
 ·rw [dec_step h,decFrom_snoc _ _ (digit_val (Nat.mod_lt n (by decide))) _ _ _ (decFrom_dec (n / 10))];congr 1;omega
termination_by n
decreasing_by omega
theorem dec_head (n : Nat) : ∃ b r,decDigits n = b :: r /\ b ≠ 45 /\ b ≠ 43:=by
 by_cases h : n < 10
 ·refine ⟨_,_,decDigits_one h,?_⟩;exact (show ∀ n : Nat,n < 10 -> UInt8.ofNat (48 + n) ≠ 45 /\ UInt8.ofNat (48 + n) ≠ 43 by decide) n h
 ·obtain ⟨b,r,hb,hk⟩:=dec_head (n / 10);exact ⟨b,r ++ [UInt8.ofNat (48 + n % 10)],by rw [dec_step h,hb,xj],hk⟩
termination_by n
decreasing_by omega
theorem atoi_dec (n : Nat) : atoi (decDigits n) = some (n : Int):=by
 obtain ⟨b,r,hb,h1,h2⟩:=dec_head n;have h:=decFrom_dec n;rw [hb] at h ⊢;rw [atoi,if_neg (by simpa using h1),if_neg (by simpa using h2),decNat,h];rfl
end Tt
namespace Tt
def digV (l : List UInt8) : Int:=l.foldl (fun n c => 10 * n + ((c.toNat : Int) - 48)) 0
def isDig (c : UInt8) : Bool:=!(decide (c.toNat < 48)) && !(decide (57 < c.toNat))
def numR (l : List UInt8) : Int:=if l.all isDig = true /\ 1 <= l.length /\ l.length <= 9 then digV l else -1
theorem digV_snoc (l : List UInt8) (c : UInt8) : digV (l ++ [c]) = 10 * digV l + ((c.toNat : Int) - 48):=by unfold digV;rw [List.foldl_append];rfl
def momR (l : List UInt8) : Int × Int × Bool:=if l.length ≠ 15 then (0,0,false) else
 ((dayV (numR (l.take 4)) (numR ((l.drop 4).take 2)) (numR ((l.drop 6).take 2))).1,numR ((l.drop 9).take 2) * 60 + numR ((l.drop 11).take 2),decide ((dayV (numR (l.take 4)) (numR ((l.drop 4).take 2)) (numR ((l.drop 6).take 2))).2 = 0))
def momsR : Nat -> List UInt8 -> List Int
 | 0,_ => []
 | n + 1,l => if 15 <= l.length then (momR (l.take 15)).1 :: momsR n (l.drop 16) else []
end Tt
namespace Go.Proofs.YtcomifbfldoeiaaGreatDoor
open Go.RowKit
theorem run_copy_rowk (P : Program) (w : World) (dT sT ty elem : TypeId) (k : Nat) (g o dLen dCap : Nat) (a : Addr) (sLen sCap : Nat) (cur : Array Value) (t : TypeId) (cs : List Value)
  (hu : P.underlying dT = some (.slice elem)) (hs : (P.info? elem).map (·.size) = some k)
  (hg : w.heap[g]? = some (.cells cur t (0,0))) (hn : cs.length = Nat.min sLen dLen * k)
  (hsrc : ∀ j v,cs[j]? = some v -> w.cell? (a.add j) = some v) (hfit : o + cs.length <= cur.size) (h1 : ∀ v ∈ cs,v.oneCell' = true) :
  (Builtin.copy_ #[dT,sT] ty #[.slice (some ⟨g,o,none⟩) dLen dCap,.slice (some a) sLen sCap]).run P w =
   .ok (goInt (Nat.min sLen dLen)) (w.setRow g (cur.toList.take o ++ cs ++ cur.toList.drop (o + cs.length)).toArray):=by
 have hl:=run_loadCells_list (P:=P) w a cs hsrc;have hst:=run_storeCells_at P g o t cs 0 cur w hg (by simpa using hfit) h1;cases hq : P.info? elem with
 | none => simp [hq] at hs
 | some i =>
  have hi : i.size = k:=by simpa [hq] using hs
  rw [hn] at hl;simp [Builtin.copy_,run_underlying hu,Builtin.lenOf,Builtin.firstCells,sizeOf,typeInfo,hq,hi,hl,hst]
theorem splice_end {α : Type} (L ys zs : List α) (p : Nat) (h : p + ys.length + zs.length <= L.length) : (splice (splice L p ys) (p + ys.length) zs).take (p + ys.length + zs.length) = L.take p ++ ys ++ zs:=by
 have e1 : (splice L p ys).take (p + ys.length) = L.take p ++ ys:=by
  unfold splice;rw [<- xb,List.take_left' (by simp;omega)]
 unfold splice at e1 ⊢;rw [e1,<- xb,List.take_left' (by simp;omega)]
theorem splice_mid {α : Type} (L ys zs : List α) (p : Nat) (h : p + ys.length + zs.length <= L.length) : (splice (splice L (p + ys.length) zs) p ys).take (p + ys.length + zs.length) = L.take p ++ ys ++ zs:=by
 have e1 : (splice L (p + ys.length) zs).take p = L.take p:=by
  unfold splice;rw [List.take_append_of_le_length (by simp;omega),List.take_take,Nat.min_eq_left (by omega)]
 have e2 : (splice L (p + ys.length) zs).drop (p + ys.length) = zs ++ L.drop (p + ys.length + zs.length):=by
  unfold splice;rw [List.drop_left' (by simp;omega)]
 unfold splice at e1 e2 ⊢;rw [e1,e2,<- xb,<- xb,List.take_left' (by simp;omega)]
theorem grownBy_setRow (w : World) (g : Nat) (cs : Array Value) : w.grownBy (w.setRow g cs) (some g):=by
 refine ⟨rfl,rfl,rfl,by simp [World.setRow],fun k hk hne => ?_⟩;exact setRow_other w g k cs (fun h => hne (by rw [h]))
theorem wpList_copy_rowk {P : Program} {w : World} {ops : Array Oper} {rest : List Oper} {o : Oper} {a : Act} {Q : Exit -> Act -> World -> Prop} (hgd : o.guard = none) (d s : Operand) (dT sT : TypeId)
  (ho : o.op = .call { callee:=.builtin .copy,args:=#[d,s],argTypes:=#[dT,sT] }) (elem : TypeId) (k : Nat) (hu : P.underlying dT = some (.slice elem)) (hsz : (P.info? elem).map (·.size) = some k)
  (g off dLen dCap : Nat) (ad : Addr) (sLen sCap : Nat) (hd : a.eval d = .slice (some ⟨g,off,none⟩) dLen dCap) (hs : a.eval s = .slice (some ad) sLen sCap)
  (L : List Value) (t : TypeId) (hg : w.heap[g]? = some (.cells L.toArray t (0,0))) (cs : List Value) (hn : cs.length = Nat.min sLen dLen * k)
  (hsrc : ∀ j v,cs[j]? = some v -> w.cell? (ad.add j) = some v) (hfit : off + cs.length <= L.length) (h1 : ∀ v ∈ cs,v.oneCell' = true)
  (h : ∀ w',Hid (w'.heap[g]? = some (.cells (splice L off cs).toArray t (0,0))) -> Hid (w.grownBy w' (some g)) -> wpList P ops Q rest (a.put o.dst (goInt (Nat.min sLen dLen))) w') : wpList P ops Q (o :: rest) a w:=by
 refine wpList_plain hgd fun K hK => ?_
 have hrun:=run_copy_rowk P w dT sT o.type elem k g off dLen dCap ad sLen sCap L.toArray t cs hu hsz hg hn hsrc (by simpa using hfit) h1;unfold Oper.wp execOp;simp only [ho,resolve,invoke,builtin,Sem.run_bind,Sem.run_pure,Result.andThen_ok,List.map_toArray,List.map_cons,List.map_nil,hd,hs,hrun];exact hK _ _ (h _ (show _ = _ by simpa [splice] using setRow_heap w g _ _ t _ hg) (grownBy_setRow w g _))
theorem step_copy_rowk {P : Program} {ops : Array Oper} {o : Oper} {a : Act} {w : World} {K : Act -> World -> Prop} {Q : Exit -> Act -> World -> Prop} {E : Prop} (hgd : o.guard = none) (d s : Operand) (dT sT : TypeId)
  (ho : o.op = .call { callee:=.builtin .copy,args:=#[d,s],argTypes:=#[dT,sT] }) (elem : TypeId) (k : Nat) (hu : P.underlying dT = some (.slice elem)) (hsz : (P.info? elem).map (·.size) = some k)
  (g off dLen dCap : Nat) (ad : Addr) (sLen sCap : Nat) (hd : a.eval d = .slice (some ⟨g,off,none⟩) dLen dCap) (hs : a.eval s = .slice (some ad) sLen sCap)
  (L : List Value) (t : TypeId) (hg : w.heap[g]? = some (.cells L.toArray t (0,0))) (cs : List Value) (hn : cs.length = Nat.min sLen dLen * k)
  (hsrc : ∀ j v,cs[j]? = some v -> w.cell? (ad.add j) = some v) (hfit : off + cs.length <= L.length) (h1 : ∀ v ∈ cs,v.oneCell' = true)
  (h : ∀ w',Hid (w'.heap[g]? = some (.cells (splice L off cs).toArray t (0,0))) -> Hid (w.grownBy w' (some g)) -> K (a.put o.dst (goInt (Nat.min sLen dLen))) w') :
  if Region.wanted o (yielded ops a.tmps) = true then Oper.wp P o a w K Q else E:=by
 have hw : Region.wanted o (yielded ops a.tmps) = true:=by simp [Region.wanted,hgd]
 rw [if_pos hw];have hrun:=run_copy_rowk P w dT sT o.type elem k g off dLen dCap ad sLen sCap L.toArray t cs hu hsz hg hn hsrc (by simpa using hfit) h1;unfold Oper.wp;simp [execOp,ho,resolve,invoke,builtin,hd,hs,hrun,Result.andThen];exact h _ (show _ = _ by simpa [splice] using setRow_heap w g _ _ t _ hg) (by rw [<- xb];exact grownBy_setRow w g _)
theorem infoEv1 : (Tryz.prog.info? 104).map (fun i => (i.zero,i.size,i.bytes)) = some (some (.agg #[.string ⟨#[]⟩,.int .i64 0,.bool false,.int .i64 0,.int .i64 0,.int .i64 0,.int .i64 0,.slice none 0 0,.slice none 0 0,.int .i64 0,.int .i64 0,.string ⟨#[]⟩,.string ⟨#[]⟩]),13,160):=by kernel_rfl
theorem infoEv0 : ∃ i0 : TypeInfo,Tryz.prog.info? 104 = some i0 /\ i0.zero = some (.agg #[.string ⟨#[]⟩,.int .i64 0,.bool false,.int .i64 0,.int .i64 0,.int .i64 0,.int .i64 0,.slice none 0 0,.slice none 0 0,.int .i64 0,.int .i64 0,.string ⟨#[]⟩,.string ⟨#[]⟩]) /\ i0.size = 13 /\ i0.bytes = 160:=by
 have h:=infoEv1;cases hq : Tryz.prog.info? 104 with
 | none => rw [hq] at h;cases h
 | some i =>
  rw [hq] at h;simp only [Option.map_some,Option.some.injEq,Prod.mk.injEq] at h;exact ⟨i,rfl,h.1,h.2.1,h.2.2⟩
def Inserted (base : Nat) (v : Value) (w : World) (n : Nat) (zs : List Value) (e : Ending) (w' : World) : Prop :=
 ∃ v',e = .returned v' /\ w'.ownsRow base 104 13 v' (n + 1) zs /\ w.grownBy w' v.ownBlock /\ (v'.ownBlock = v.ownBlock ∨ v'.ownBlock = some w.heap.size)
theorem insert82_end (base : Nat) (v : Value) (n g : Nat) (xs ys : List Value) (w : World) (hown : w.ownsRow base 104 13 v n xs) (hn : n <= 1000000) (hbase : base <= w.heap.size)
  (hg : w.heap[g]? = some (.cells ys.toArray 104 (0,0))) (hy : ys.length = 13) (h1y : ∀ u ∈ ys,u.oneCell' = true) :
  Calls Tryz.prog 169 #[v,.int .i64 n,.slice (some ⟨g,0,none⟩) 1 1] w (Inserted base v w n (xs ++ ys)):=by
 obtain ⟨i0,hi,hz0,hz1,hz2⟩:=infoEv0;have hgc : ∀ j u,ys[j]? = some u -> w.cell? ((⟨g,0,none⟩ : Addr).add j) = some u:=fun j u hj => by
  rw [Addr.add_lit];have hlt:=(List.getElem?_eq_some_iff.1 hj).1;simp [World.cell?,hg];exact hj
 obtain ⟨base',c,hv⟩ : ∃ base' c,v = .slice base' n c:=by
  rcases hown.2 with ⟨h1,h2⟩ | ⟨g0,cap,cur,h1,_⟩
  ·exact ⟨none,0,by rw [h1,h2]⟩
  ·exact ⟨_,_,h1⟩
 have hnc : n <= c:=by
  rcases hown.2 with ⟨h1,h2⟩ | ⟨g0,cap,cur,h1,_,_,h2,_⟩
  ·omega
  ·rw [hv] at h1;cases h1;exact h2
 have HO:=Lh hown;have HC:=Lh hgc;have HG:=Lh hg;clear hown hgc hg;subst hv;go_enter Tryz.func169,Tryz.ntmps169;go_wp2_with (at_builtin;refine wpList_append_own_at _ rfl (.tmp 23) (.tmp 24) 47 rfl base 104 i0 _ 13 160 Tryz.underlying47 hi hz0 hz1 hz2 rfl (by decide) _ n xs rfl HO.out ⟨g,0,none⟩ 1 1 ys rfl hy HC.out h1y (by unfold maxLen;omega) (by omega) hbase ?_)
 all_goals
  intro v' w' h1 h2 _ h4;have H:=Lh (And.intro h1 (And.intro h2 h4));clear h1 h2 h4;go_wp2_with fail;go_ret;refine ⟨v',rfl,?_⟩;first | exact H.out | (rw [show (Value.slice base' n c).ownBlock = (Value.slice base' n n).ownBlock from by cases base' <;> rfl];exact H.out)
theorem insert82_grow (base : Nat) (b n i g : Nat) (cur xs ys : List Value) (w : World) (hb : w.heap[b]? = some (.cells cur.toArray 104 (0,0))) (hcur : cur.length = n * 13) (hx : cur = xs) (hin : i < n) (hn : n <= 1000000) (hbase : base <= w.heap.size)
  (hg : w.heap[g]? = some (.cells ys.toArray 104 (0,0))) (hy : ys.length = 13) (h1y : ∀ u ∈ ys,u.oneCell' = true) (h1x : ∀ u ∈ xs,u.oneCell' = true) :
  Calls Tryz.prog 169 #[.slice (some ⟨b,0,none⟩) n n,.int .i64 i,.slice (some ⟨g,0,none⟩) 1 1] w (Inserted base (.slice (some ⟨b,0,none⟩) n n) w n (xs.take (i * 13) ++ ys ++ xs.drop (i * 13))):=by
 obtain ⟨i0,hi,hz0,hz1,hz2⟩:=infoEv0;subst hx;obtain ⟨z,hz⟩ : ∃ z : Value,z = .agg #[.string ⟨#[]⟩,.int .i64 0,.bool false,.int .i64 0,.int .i64 0,.int .i64 0,.int .i64 0,.slice none 0 0,.slice none 0 0,.int .i64 0,.int .i64 0,.string ⟨#[]⟩,.string ⟨#[]⟩]:=⟨_,rfl⟩
 have hzc : z.cells.size = 13:=by rw [hz];rfl
 have hsz : (Tryz.prog.info? 104).map (·.size) = some 13:=by rw [hi];simp [hz1]
 rw [<- hz] at hz0;clear hz;have hbw : b < w.heap.size:=(xa.1 hb).1;have hgw : g < w.heap.size:=(xa.1 hg).1;have hcell : ∀ (W : World) (q : Nat) (l : List Value),W.heap[q]? = some (.cells l.toArray 104 (0,0)) -> ∀ p j u,(l.drop p)[j]? = some u -> W.cell? ((⟨q,p,none⟩ : Addr).add j) = some u:=fun W q l hq p j u hj => by
  rw [Addr.add_lit];rw [List.getElem?_drop] at hj;simp [World.cell?,hq];exact hj
 have hkk : (n : Int) + 1 - (i : Int) = ((n + 1 - i : Nat) : Int):=by omega
 have hik : i + (n + 1 - i) = n + 1:=by omega
 have hold : (Builtin.firstCells i0.size i (.slice (some ⟨b,0,none⟩) i n)).run Tryz.prog w.drew = .ok (cur.take (i * 13)).toArray w.drew:=by
  rw [hz1];exact run_firstCells_some w.drew 13 i ⟨b,0,none⟩ i n (cur.take (i * 13)) (by rw [xg];omega) (fun j v hj => by
   rw [List.getElem?_take] at hj;split at hj
   ·exact hcell w b cur hb 0 j v (by simpa using hj)
   ·cases hj)
 have hrz : ∀ ty,(Builtin.append_ #[47,3] ty #[.slice (some ⟨b,0,none⟩) i n,.int .i64 ((n : Int) + 1 - (i : Int))]).run Tryz.prog w =
   .ok (.slice (some ⟨w.heap.size,0,none⟩) (n + 1) (grownCap w (n + 1) n 104)) (w.drew.alloc (.cells ((cur.take (i * 13)).toArray ++ Builtin.zeroCells z.cells (n + 1 - i) ++ Builtin.zeroCells z.cells (grownCap w (n + 1) n 104 - (n + 1))) 104)):=fun ty => by
  have h:=Lib.run_append_grow_zeros w 47 3 ty 104 i0 z .i64 .i64 Tryz.underlying47 Tryz.underlying3 hi hz0 (some ⟨b,0,none⟩) i n (cur.take (i * 13)) hold (n + 1 - i) (by omega) (by omega) (by omega) (by omega) (by rw [hz2];omega) (by rw [hz2,hik];exact growslice_fits (by omega) (by omega));rw [hik] at h;rw [hkk];exact h
 obtain ⟨G,hG⟩ : ∃ G,G = grownCap w (n + 1) n 104:=⟨_,rfl⟩
 obtain ⟨ROW,hROW⟩ : ∃ ROW : List Value,ROW = ((cur.take (i * 13)).toArray ++ Builtin.zeroCells z.cells (n + 1 - i) ++ Builtin.zeroCells z.cells (G - (n + 1))).toList:=⟨_,rfl⟩
 obtain ⟨W1,hW1⟩ : ∃ W1,W1 = w.drew.alloc (.cells ROW.toArray 104):=⟨_,rfl⟩
 have hrz2 : ∀ ty,(Builtin.append_ #[47,3] ty #[.slice (some ⟨b,0,none⟩) i n,.int .i64 ((n : Int) + 1 - (i : Int))]).run Tryz.prog w = .ok (.slice (some ⟨w.heap.size,0,none⟩) (n + 1) G) W1:=fun ty => by
  rw [hrz,hW1,hROW,hG]
 have hGn : n + 1 <= G:=by rw [hG];exact grownCap_ge w _ _ _
 have hRl : ROW.length = G * 13:=by
  rw [hROW];simp [Builtin.zeroCells,hzc];omega
 have hRt : ROW.take (i * 13) = cur.take (i * 13):=by
  rw [hROW];rw [Array.toList_append,Array.toList_append,xb,List.take_append_of_le_length (by simp;omega)];rw [List.take_take,Nat.min_self]
 have hG63 : G <= maxLen:=by
  rw [hG];exact grownCap_le_maxLen w (n + 1) n 104 (by unfold maxLen;omega)
 have hG64 : G <= 9223372036854775807:=by unfold maxLen at hG63;omega
 have HW:=Lh (show W1.heap[w.heap.size]? = some (.cells ROW.toArray 104 (0,0)) from by rw [hW1];exact heap_alloc_new w.drew _);have HWg:=Lh (show w.grownBy W1 none from by rw [hW1];have h:=World.grownBy_alloc w.drew (.cells ROW.toArray 104) none;exact ⟨h.os,h.tape,h.output,h.size,h.block⟩);have HB1:=Lh (show W1.heap[b]? = some (.cells cur.toArray 104 (0,0)) from (HWg.out.block b hbw (by simp)).trans hb);have HG1:=Lh (show W1.heap[g]? = some (.cells ys.toArray 104 (0,0)) from (HWg.out.block g hgw (by simp)).trans hg);have hGi : ¬ (G = i):=by omega
 have hGim : ¬ (G = i + 1):=by omega
 have hni : ¬ (n = i):=by omega
 have hbN : b ≠ w.heap.size:=by omega
 have hw1 : IntKind.i64.wrap ((i : Int) + 1) = (i : Int) + 1:=by rw [IntKind.wrap_i64];omega
 have hb1 : (0 : Int) <= (i : Int) + 1:=by omega
 have htn : ((i : Int) + 1).toNat = i + 1:=by omega
 have hb3 : (i : Int) <= (n : Int):=by omega
 have hz2' : ¬ ((i : Int) = (n : Int)):=by omega
 have hmA : ys.length = Nat.min 1 (n + 1 - i) * 13:=by rw [hy,show Nat.min 1 (n + 1 - i) = 1 from Nat.min_eq_left (by omega)]
 have hfA : i * 13 + ys.length <= ROW.length:=by rw [hRl,hy];omega
 have hmB : (cur.drop (i * 13)).length = Nat.min (n - i) (n + 1 - (i + 1)) * 13:=by rw [xc,hcur,show Nat.min (n - i) (n + 1 - (i + 1)) = n - i from Nat.min_eq_left (by omega)];omega
 have hfB : i * 13 + 13 + (cur.drop (i * 13)).length <= ROW.length:=by rw [hRl,xc,hcur];omega
 have h1B : ∀ u ∈ cur.drop (i * 13),u.oneCell' = true:=fun u hu => h1x u (List.mem_of_mem_drop hu)
 have hfin : (splice (splice ROW (i * 13) ys) ((i + 1) * 13) (cur.drop (i * 13))).take ((n + 1) * 13) = cur.take (i * 13) ++ ys ++ cur.drop (i * 13):=by
  have h:=splice_end ROW ys (cur.drop (i * 13)) (i * 13) (by rw [hy];exact hfB);rw [hy,hRt] at h;rw [<- h,show (i + 1) * 13 = i * 13 + 13 by omega,show (n + 1) * 13 = i * 13 + 13 + (cur.drop (i * 13)).length by rw [xc,hcur];omega]
 have HF:=Lh (And.intro hfin (show (splice (splice ROW (i * 13) ys) ((i + 1) * 13) (cur.drop (i * 13))).length = G * 13 from by rw [length_splice _ _ _ (by rw [length_splice _ _ _ hfA];omega),length_splice _ _ _ hfA,hRl]));have hfC : (i + 1) * 13 + (cur.drop (i * 13)).length <= (splice ROW (i * 13) ys).length:=by rw [length_splice _ _ _ hfA];omega
 clear hfin;have H1:=Lh hrz2;have HC:=Lh hcell;have HR:=Lh (And.intro hRl hRt);have HL:=Lh hcur;obtain ⟨N,hN⟩ : ∃ N,N = w.heap.size:=⟨_,rfl⟩
 rw [<- hN] at H1 HW hbN;have HN:=Lh hN;clear hrz hrz2 hcell hold hROW hG hRl hRt hW1 hcur hb hg hkk hN;go_enter Tryz.func169,Tryz.ntmps169;go_wp2_with (first | (at_builtin;refine Lib.wpList_append_run _ rfl _ _ _ _ rfl _ _ rfl rfl _ _ (H1.out _) ?_) | (refine wpList_copy_rowk rfl (.tmp 43) (.tmp 44) 47 47 rfl 104 13 Tryz.underlying47 hsz N (i * 13) (n + 1 - i) (G - i) ⟨g,0,none⟩ 1 1 rfl rfl ROW 104 HW.out ys hmA (fun j u hj => HC.out W1 g ys HG1.out 0 j u (by simpa using hj)) hfA h1y ?_));intro W2 hR2 hB2;have HB2:=Lh (show W2.heap[b]? = some (.cells cur.toArray 104 (0,0)) from (hB2.out.block b (xa.1 HB1.out).1 (by simpa using hbN)).trans HB1.out);obtain ⟨R1,hR1⟩ : ∃ R1,R1 = splice ROW (i * 13) ys:=⟨_,rfl⟩
 rw [<- hR1] at hR2 hfC HF;obtain ⟨X2,hX2⟩ : ∃ X2,X2 = cur.drop (i * 13):=⟨_,rfl⟩
 have hsB : ∀ j u,X2[j]? = some u -> W2.cell? ((⟨b,i * 13,none⟩ : Addr).add j) = some u:=fun j u hj => HC.out W2 b cur HB2.out (i * 13) j u (by rw [<- hX2];exact hj)
 have HSB:=Lh hsB;rw [<- hX2] at hfC HF hmB h1B;have HX2:=Lh hX2;clear hR1 hsB hfB hX2;go_wp2_with fail;go_region_law (refine step_copy_rowk rfl (.tmp 50) (.tmp 53) 47 47 rfl 104 13 Tryz.underlying47 hsz N ((i + 1) * 13) (n + 1 - (i + 1)) (G - (i + 1)) ⟨b,i * 13,none⟩ (n - i) (n - i) (by simp [Act.eval,Act.put]) (by simp [Act.eval,Act.put]) R1 104 hR2.out X2 hmB HSB.out hfC h1B ?_;intro W3 hR3 hB3)
 all_goals
  have H:=Lh (And.intro hR3.out hB3.out);clear hR3 hB3;go_wp2_with fail;go_ret;refine ⟨_,rfl,⟨by rw [xd,xd,xg,xc,hy,HL.out];omega,.inr ⟨N,G,_,rfl,by rw [HN.out];exact hbase,H.out.1,hGn,hG63,by simpa using HF.out.2,by rw [<- HX2.out];simpa using HF.out.1⟩⟩,⟨H.out.2.os.trans (hB2.out.os.trans HWg.out.os),H.out.2.tape.trans (hB2.out.tape.trans HWg.out.tape),H.out.2.output.trans (hB2.out.output.trans HWg.out.output),xe HWg.out.size (xe hB2.out.size H.out.2.size),fun k hk _ => ?_⟩,.inr (by rw [<- HN.out];rfl)⟩;have hkN : some k ≠ some N:=by rw [HN.out];intro h;cases h;omega
  exact (H.out.2.block k (xf hk (xe HWg.out.size hB2.out.size)) hkN).trans ((hB2.out.block k (xf hk HWg.out.size) hkN).trans (HWg.out.block k hk (by simp)))
theorem insert82_shift (base : Nat) (b n c i g : Nat) (cur xs ys : List Value) (w : World) (hb : w.heap[b]? = some (.cells cur.toArray 104 (0,0))) (hcur : cur.length = c * 13) (hx : cur.take (n * 13) = xs) (hin : i < n) (hnc : n + 1 <= c) (hcm : c <= maxLen) (hbb : base <= b)
  (hg : w.heap[g]? = some (.cells ys.toArray 104 (0,0))) (hgb : g ≠ b) (hy : ys.length = 13) (h1y : ∀ u ∈ ys,u.oneCell' = true) (h1x : ∀ u ∈ xs,u.oneCell' = true) :
  Calls Tryz.prog 169 #[.slice (some ⟨b,0,none⟩) n c,.int .i64 i,.slice (some ⟨g,0,none⟩) 1 1] w (Inserted base (.slice (some ⟨b,0,none⟩) n c) w n (xs.take (i * 13) ++ ys ++ xs.drop (i * 13))):=by
 obtain ⟨i0,hi,hz0,hz1,hz2⟩:=infoEv0;have hsz : (Tryz.prog.info? 104).map (·.size) = some 13:=by rw [hi];simp [hz1]
 have hbw : b < w.heap.size:=(xa.1 hb).1;have hgw : g < w.heap.size:=(xa.1 hg).1;have hc63 : c <= 9223372036854775807:=by unfold maxLen at hcm;omega
 have hxl : xs.length = n * 13:=by rw [<- hx,xg,hcur];omega
 have hcell : ∀ (W : World) (q : Nat) (l : List Value),W.heap[q]? = some (.cells l.toArray 104 (0,0)) -> ∀ p j u,(l.drop p)[j]? = some u -> W.cell? ((⟨q,p,none⟩ : Addr).add j) = some u:=fun W q l hq p j u hj => by
  rw [Addr.add_lit];rw [List.getElem?_drop] at hj;simp [World.cell?,hq];exact hj
 have hsof : ∀ w,(Go.sizeOf 104).run Tryz.prog w = .ok 13 w:=fun w => by
  simp [sizeOf,typeInfo,hi,hz1]
 have hov : ∀ W : World,W.heap[b]? = some (.cells cur.toArray 104 (0,0)) -> W.heap[g]? = some (.cells ys.toArray 104 (0,0)) -> ∀ o lb cb,(callFunc 228 #[.slice (some ⟨g,0,none⟩) 1 1,.slice (some ⟨b,o,none⟩) lb cb]).run Tryz.prog W = .ok (.value (.bool false)) W:=fun W hb hg o lb cb => by
  rw [run_callFunc_extern Tryz.func228 (by kernel_rfl) (by kernel_rfl) (by kernel_rfl) (e:=Extern.SlicesOverlaps.overlaps #[47,47] #[4]) (by kernel_rfl),
   Lib.run_overlaps_apart W 47 4 104 Tryz.underlying47 13 hsof ⟨g,0,none⟩ ⟨b,o,none⟩ 1 1 lb cb hgb 104 104 ys.toArray.size cur.toArray.size (by simp [World.shape?,hg]) (by simp [World.shape?,hb]) (by rw [List.size_toArray,hcur];omega) (by simp [World.frozen?,hg]) (by simp [World.frozen?,hg])]
  rfl
 have hov1:=hov w hb hg;have hni : ¬ (n = i):=by omega
 have hci : ¬ (c = i):=by omega
 have hci1 : ¬ (c = i + 1):=by omega
 have hnci : ¬ ((c : Int) < (n : Int) + 1):=by omega
 have hw1 : IntKind.i64.wrap ((i : Int) + 1) = (i : Int) + 1:=by rw [IntKind.wrap_i64];omega
 have hw2 : IntKind.i64.wrap ((n : Int) + 1) = (n : Int) + 1:=by rw [IntKind.wrap_i64];omega
 have hb1 : (0 : Int) <= (i : Int) + 1:=by omega
 have hb2 : (0 : Int) <= (n : Int) + 1:=by omega
 have htn : ((i : Int) + 1).toNat = i + 1:=by omega
 have htn2 : ((n : Int) + 1).toNat = n + 1:=by omega
 have hb3 : (i : Int) <= (n : Int):=by omega
 have hb4 : (i : Int) + 1 <= (n : Int) + 1:=by omega
 have hb5 : (n : Int) + 1 <= (c : Int):=by omega
 have hb6 : (i : Int) <= (n : Int) + 1:=by omega
 have hz2' : ¬ ((i : Int) = (n : Int)):=by omega
 obtain ⟨X2,hX2⟩ : ∃ X2,X2 = xs.drop (i * 13):=⟨_,rfl⟩
 have hX2l : X2.length = (n - i) * 13:=by rw [hX2,xc,hxl];omega
 have hmB : X2.length = Nat.min (n + 1 - i) (n + 1 - (i + 1)) * 13:=by rw [hX2l,show Nat.min (n + 1 - i) (n + 1 - (i + 1)) = n - i from by rw [show n + 1 - (i + 1) = n - i by omega];exact Nat.min_eq_right (by omega)]
 have hfB : (i + 1) * 13 + X2.length <= cur.length:=by rw [hX2l,hcur];omega
 have h1B : ∀ u ∈ X2,u.oneCell' = true:=fun u hu => h1x u (List.mem_of_mem_drop (by rw [<- hX2];exact hu))
 have hsB : ∀ j u,X2[j]? = some u -> w.drew.cell? ((⟨b,i * 13,none⟩ : Addr).add j) = some u:=fun j u hj => hcell w.drew b cur hb (i * 13) j u (by
  rw [hX2,<- hx,List.getElem?_drop,List.getElem?_take] at hj;rw [List.getElem?_drop];split at hj
  ·exact hj
  ·cases hj)
 have hmA : ys.length = Nat.min 1 (n + 1 - i) * 13:=by rw [hy,show Nat.min 1 (n + 1 - i) = 1 from Nat.min_eq_left (by omega)]
 obtain ⟨R1,hR1⟩ : ∃ R1,R1 = splice cur ((i + 1) * 13) X2:=⟨_,rfl⟩
 have hR1l : R1.length = c * 13:=by rw [hR1,length_splice _ _ _ hfB,hcur]
 have hfA : i * 13 + ys.length <= R1.length:=by rw [hR1l,hy];omega
 have HF:=Lh (show (splice R1 (i * 13) ys).length = c * 13 /\ (splice R1 (i * 13) ys).take ((n + 1) * 13) = xs.take (i * 13) ++ ys ++ xs.drop (i * 13) from by
  refine ⟨by rw [length_splice _ _ _ hfA,hR1l],?_⟩;have h:=splice_mid cur ys X2 (i * 13) (by rw [hy];omega);rw [hy] at h;rw [hR1,show (i + 1) * 13 = i * 13 + 13 by omega,show (n + 1) * 13 = i * 13 + 13 + X2.length by rw [hX2l];omega,h,<- hX2,<- hx,List.take_take,Nat.min_eq_left (by omega)])
 have HB:=Lh hb;have HG:=Lh hg;have HC:=Lh hcell;have HSB:=Lh hsB;have HM:=Lh (And.intro hcur hx);have HX:=Lh (And.intro hxl hX2);clear hb hg hcell hsof hov hcur hx hxl hX2 hX2l hsB hR1l;go_enter Tryz.func169,Tryz.ntmps169;go_wp2_with (simp only [hov1]);go_region_law (refine step_copy_rowk rfl (.tmp 73) (.tmp 76) 47 47 rfl 104 13 Tryz.underlying47 hsz b ((i + 1) * 13) (n + 1 - (i + 1)) (c - (i + 1)) ⟨b,i * 13,none⟩ (n + 1 - i) (c - i) (by simp [Act.eval,Act.put]) (by simp [Act.eval,Act.put]) cur 104 HB.out X2 hmB HSB.out hfB h1B ?_;intro W2 hR2 hB2)
 have HG2:=Lh (show W2.heap[g]? = some (.cells ys.toArray 104 (0,0)) from (hB2.out.block g hgw (by simpa using hgb)).trans HG.out);have hR2:=Lh (show W2.heap[b]? = some (.cells R1.toArray 104 (0,0)) from by rw [hR1];exact hR2.out);clear hR1;go_wp2_with (refine wpList_copy_rowk rfl (.tmp 80) (.tmp 81) 47 47 rfl 104 13 Tryz.underlying47 hsz b (i * 13) (n + 1 - i) (c - i) ⟨g,0,none⟩ 1 1 rfl rfl R1 104 hR2.out ys hmA (fun j u hj => HC.out W2 g ys HG2.out 0 j u (by simpa using hj)) hfA h1y ?_);intro W3 hR3 hB3;go_wp2_with fail;go_ret;have hkN : ∀ k,some k ≠ some b -> k ≠ b:=fun k h e => h (by rw [e])
 refine ⟨_,rfl,⟨by rw [xd,xd,xg,xc,hy,HX.out.1];omega,.inr ⟨b,c,_,rfl,hbb,hR3.out,hnc,hcm,by simpa using HF.out.1,by simpa using HF.out.2⟩⟩,⟨hB3.out.os.trans hB2.out.os,hB3.out.tape.trans hB2.out.tape,hB3.out.output.trans hB2.out.output,xe hB2.out.size hB3.out.size,fun k hk hne => (hB3.out.block k (xf hk hB2.out.size) hne).trans (hB2.out.block k hk hne)⟩,.inl rfl⟩
theorem insert82 (base : Nat) (v : Value) (n i g : Nat) (xs ys : List Value) (w : World) (hown : w.ownsRow base 104 13 v n xs) (hi : i <= n) (hn : n <= 1000000) (hbase : base <= w.heap.size)
  (hg : w.heap[g]? = some (.cells ys.toArray 104 (0,0))) (hgb : v.ownBlock ≠ some g) (hy : ys.length = 13) (h1y : ∀ u ∈ ys,u.oneCell' = true) (h1x : ∀ u ∈ xs,u.oneCell' = true) :
  Calls Tryz.prog 169 #[v,.int .i64 i,.slice (some ⟨g,0,none⟩) 1 1] w (Inserted base v w n (xs.take (i * 13) ++ ys ++ xs.drop (i * 13))):=by
 have hxl:=hown.1;by_cases he : i = n
 ·subst he;rw [<- hxl,List.take_length,List.drop_length,xl];exact insert82_end base v i g xs ys w hown hn hbase hg hy h1y
 ·rcases hown.2 with ⟨_,h0⟩ | ⟨b,cap,cur,rfl,h2,h3,h4,h5,h6,h7⟩
  ·omega
  ·by_cases hc : cap = n
   ·subst hc;have hl : cur.toList.length = cap * 13:=by rw [Array.length_toList];exact h6
    exact insert82_grow base b cap i g cur.toList xs ys w h3 hl (by rw [<- h7,<- hl,List.take_length]) (by omega) hn hbase hg hy h1y h1x
   ·exact insert82_shift base b n cap i g cur.toList xs ys w h3 (by rw [Array.length_toList];exact h6) h7 (by omega) (by omega) h5 h2 hg (fun h => hgb (by rw [h];rfl)) hy h1y h1x
def RefT (lo : Nat) (w : World) (t : Ev × Value × Value) : Prop:=EvB t.1 /\ RowI lo w t.2.1 t.1.days.ex /\ RowI lo w t.2.2 t.1.days.xt
structure RowT (lo : Nat) (w : World) (v : Value) (ts : List (Ev × Value × Value)) : Prop where
 row : w.ownsRow lo 104 13 v ts.length (tCells ts)
 ref : ∀ t ∈ ts,RefT lo w t
theorem RefT.s {lo : Nat} {w : World} {t : Ev × Value × Value} (h : RefT lo w t) : RefS w.heap.size w t:=by
 obtain ⟨hg,hx,hy⟩:=h;obtain ⟨ax,cx,e1,i1⟩:=hx.ints;obtain ⟨ay,cy,e2,i2⟩:=hy.ints;exact ⟨hg,⟨ax,cx,e1,i1⟩,⟨ay,cy,e2,i2⟩⟩
theorem RowT.seg {lo : Nat} {w : World} {v : Value} {ts : List (Ev × Value × Value)} (h : RowT lo w v ts) : ∃ ao c,v = .slice ao ts.length c /\ (ao = none -> c = 0) /\ Seg w.heap.size w ao ts:=by
 have hr : ∀ t ∈ ts,RefS w.heap.size w t:=fun t ht => (h.ref t ht).s
 rcases h.row.2 with ⟨hv,h0⟩ | ⟨g,cap,cur,hv,r2,r3,r4,r5,_⟩
 ·have : ts = []:=List.eq_nil_of_length_eq_zero h0;subst this;exact ⟨none,0,hv,fun _ => rfl,Seg.nil _ _ _⟩
 ·refine ⟨_,cap,hv,fun e => (by cases e),.inr ⟨g,0,rfl,(xa.1 r3).1,fun j u hj => ?_⟩,hr⟩;have:=h.row.cells (g:=g) (by rw [hv];rfl) j u hj;rw [Addr.add_lit] at this;exact this
theorem RowT.nil (lo : Nat) (w : World) : RowT lo w (.slice none 0 0) []:=⟨World.ownsRow_nil _ _ _ _,fun t h => by cases h⟩
theorem RefT.mono {lo lo' : Nat} {w : World} {t : Ev × Value × Value} (h : RefT lo w t) (hb : lo' <= lo) : RefT lo' w t:=⟨h.1,ownsRow_mono h.2.1 hb,ownsRow_mono h.2.2 hb⟩
theorem RowT.mono {lo lo' : Nat} {w : World} {v : Value} {ts : List (Ev × Value × Value)} (h : RowT lo w v ts) (hb : lo' <= lo) : RowT lo' w v ts:=⟨ownsRow_mono h.row hb,fun t ht => (h.ref t ht).mono hb⟩
theorem RefT.made {lo : Nat} {w w' : World} {t : Ev × Value × Value} (h : RefT lo w t) (hb : Below w.heap.size w w') : RefT lo w' t:=⟨h.1,row_made h.2.1 hb,row_made h.2.2 hb⟩
theorem RowT.made {lo : Nat} {w w' : World} {v : Value} {ts : List (Ev × Value × Value)} (h : RowT lo w v ts) (hb : Below w.heap.size w w') : RowT lo w' v ts:=⟨row_made h.row hb,fun t ht => (h.ref t ht).made hb⟩
theorem RefT.set {lo : Nat} {w : World} {t : Ev × Value × Value} (h : RefT lo w t) {g : Nat} {cs : Array Value} {ty : TypeId} (hg : Blk g cs ty w) (hte : ty ≠ 3) (i : Nat) (u : Value) : RefT lo (w.setCell ⟨g,i,none⟩ u) t:=⟨h.1,row_set h.2.1 hg hte i u,row_set h.2.2 hg hte i u⟩
theorem RowT.set {lo : Nat} {w : World} {v : Value} {ts : List (Ev × Value × Value)} (h : RowT lo w v ts) {g : Nat} {cs : Array Value} {ty : TypeId} (hg : Blk g cs ty w) (hte : ty ≠ 3) (hte2 : ty ≠ 104) (i : Nat) (u : Value) : RowT lo (w.setCell ⟨g,i,none⟩ u) v ts:=⟨row_set h.row hg hte2 i u,fun t ht => (h.ref t ht).set hg hte i u⟩
theorem RefT.alloc {lo : Nat} {w : World} {t : Ev × Value × Value} (h : RefT lo w t) (o : Obj) : RefT lo (w.alloc o) t:=⟨h.1,xi h.2.1 o,xi h.2.2 o⟩
theorem RowT.alloc {lo : Nat} {w : World} {v : Value} {ts : List (Ev × Value × Value)} (h : RowT lo w v ts) (o : Obj) : RowT lo (w.alloc o) v ts:=⟨h.row.alloc o,fun t ht => (h.ref t ht).alloc o⟩
theorem RefT.grown {lo B n k : Nat} {w w' : World} {t : Ev × Value × Value} {v : Value} {xs : List Value} (h : RefT lo w t) (hown : w.ownsRow B 104 k v n xs) (hg : w.grownBy w' v.ownBlock) : RefT lo w' t :=
 ⟨h.1,World.ownsRow.kept h.2.1 hg (row_apart_ty h.2.1 hown (by decide)),World.ownsRow.kept h.2.2 hg (row_apart_ty h.2.2 hown (by decide))⟩
theorem RowT.one {lo : Nat} {w : World} {v : Value} {ts : List (Ev × Value × Value)} (h : RowT lo w v ts) : ∀ u ∈ tCells ts,u.oneCell' = true:=by
 obtain ⟨ao,c,_,_,hs⟩:=h.seg;exact hs.one
theorem tCells_sole (t : Ev × Value × Value) : tCells [t] = (evCells t.1 t.2.1 t.2.2).toList:=by unfold tCells;simp
theorem RowT.changed {lo : Nat} {w w' : World} {v v' : Value} {ts us : List (Ev × Value × Value)} (h : RowT lo w v ts) (hg : w.grownBy w' v.ownBlock) (hu : ∀ t ∈ us,t ∈ ts ∨ RefT lo w t) (hrow : w'.ownsRow lo 104 13 v' us.length (tCells us)) : RowT lo w' v' us :=
 ⟨hrow,fun t ht => (hu t ht).elim (fun k => (h.ref t k).grown h.row hg) (fun k => k.grown h.row hg)⟩
theorem tCells_ins (ts : List (Ev × Value × Value)) (t : Ev × Value × Value) (i : Nat) (hi : i <= ts.length) : (tCells ts).take (i * 13) ++ (evCells t.1 t.2.1 t.2.2).toList ++ (tCells ts).drop (i * 13) = tCells (ts.take i ++ t :: ts.drop i):=by
 rw [<- tCells_take ts i hi,<- tCells_drop ts i hi,tCells_app,show t :: ts.drop i = [t] ++ ts.drop i from rfl,tCells_app,tCells_sole,xb]
theorem RowT.ins {lo : Nat} {w w' : World} {v v' : Value} {ts : List (Ev × Value × Value)} {t : Ev × Value × Value} (h : RowT lo w v ts) (ht : RefT lo w t) (hg : w.grownBy w' v.ownBlock) (i : Nat) (hi : i <= ts.length)
  (hrow : w'.ownsRow lo 104 13 v' (ts.length + 1) ((tCells ts).take (i * 13) ++ (evCells t.1 t.2.1 t.2.2).toList ++ (tCells ts).drop (i * 13))) : RowT lo w' v' (ts.take i ++ t :: ts.drop i):=by
 refine h.changed hg (fun s hs => ?_) ?_
 ·rcases xk.1 hs with k | k
  ·exact .inl (List.mem_of_mem_take k)
  ·rcases List.mem_cons.1 k with rfl | k
   ·exact .inr ht
   ·exact .inl (List.mem_of_mem_drop k)
 ·rw [<- tCells_ins ts t i hi];have : (ts.take i ++ t :: ts.drop i).length = ts.length + 1:=by simp;omega
  rw [this];exact hrow
theorem RowT.snoc {lo : Nat} {w w' : World} {v v' : Value} {ts : List (Ev × Value × Value)} {t : Ev × Value × Value} (h : RowT lo w v ts) (ht : RefT lo w t) (hg : w.grownBy w' v.ownBlock)
  (hrow : w'.ownsRow lo 104 13 v' (ts.length + 1) (tCells ts ++ (evCells t.1 t.2.1 t.2.2).toList)) : RowT lo w' v' (ts ++ [t]):=by
 refine h.changed hg (fun s hs => ?_) ?_
 ·rcases xk.1 hs with k | k
  ·exact .inl k
  ·rw [List.mem_singleton.1 k];exact .inr ht
 ·rw [tCells_snoc,xd];exact hrow
theorem below_grownBy {B B' k n : Nat} {w0 w w' : World} {e : TypeId} {v : Value} {xs : List Value} (hb : Below B w0 w) (hown : w.ownsRow B' e k v n xs) (hB : B <= B') (hs : B <= w.heap.size) (hg : w.grownBy w' v.ownBlock) : Below B w0 w':=by
 refine hb.trans ⟨hg.os,hg.tape,hg.output,hg.size,fun j hj => hg.block j (by omega) (fun he => ?_)⟩;have:=(hown.lt j he.symm).1;omega
theorem ownsRow_setAll {lo k n c : Nat} {e : TypeId} {g : Nat} : ∀ (us : List Value) (j : Nat) (xs : List Value) (w : World),w.ownsRow lo e k (.slice (some ⟨g,0,none⟩) n c) n xs -> j + us.length <= n * k ->
  (setAll w g j us).ownsRow lo e k (.slice (some ⟨g,0,none⟩) n c) n (xs.take j ++ us ++ xs.drop (j + us.length)) /\ w.grownBy (setAll w g j us) (some g)
 | [],j,xs,w,h,_ => by
  simp only [xl,List.length_nil,Nat.add_zero,List.take_append_drop];exact ⟨h,World.grownBy.refl w _⟩
 | u :: r,j,xs,w,h,hl => by
  have hx:=h.1;have h1:=h.stored j u;have h2:=ownsRow_setAll r (j + 1) (xs.set j u) (w.setCell ⟨g,j,none⟩ u) h1.1 (by simp at hl ⊢;omega);have e1:=list_seg_step xs j u r (by simp at hl;omega);rw [e1] at h2;exact ⟨h2.1,h1.2.trans h2.2⟩
theorem RowT.store {lo n c g : Nat} {w : World} {ts : List (Ev × Value × Value)} (h : RowT lo w (.slice (some ⟨g,0,none⟩) n c) ts) (hn : ts.length = n) (i : Nat) (e : Ev) (v v' : Value) (hi : i < n) (hr : RefT lo w (e,v,v')) :
  ∃ W,W = ((((((((((((w.setCell ⟨g,i * 13,none⟩ (.string e.uid)).setCell ⟨g,i * 13 + 1,none⟩ (.int .i64 e.seq)).setCell ⟨g,i * 13 + 2,none⟩ (.bool e.canc)).setCell ⟨g,i * 13 + 3,none⟩ (.int .i64 e.days.first)).setCell ⟨g,i * 13 + 4,none⟩ (.int .i64 e.days.last)).setCell ⟨g,i * 13 + 5,none⟩ (.int .i64 e.days.every)).setCell ⟨g,i * 13 + 6,none⟩ (.int .i64 e.days.wd)).setCell ⟨g,i * 13 + 7,none⟩ v).setCell ⟨g,i * 13 + 8,none⟩ v').setCell ⟨g,i * 13 + 9,none⟩ (.int .i64 e.start)).setCell ⟨g,i * 13 + 10,none⟩ (.int .i64 e.mins)).setCell ⟨g,i * 13 + 11,none⟩ (.string e.summ)).setCell ⟨g,i * 13 + 12,none⟩ (.string e.loc) /\
   RowT lo W (.slice (some ⟨g,0,none⟩) n c) (ts.set i (e,v,v')) /\ w.grownBy W (some g):=by
 subst hn;have hl : (evCells e v v').toList.length = 13:=rfl;have h1:=ownsRow_setAll (evCells e v v').toList (i * 13) (tCells ts) w h.row (by rw [hl];omega);refine ⟨setAll w g (i * 13) (evCells e v v').toList,rfl,h.changed h1.2 (fun s hs => ?_) ?_,h1.2⟩
 ·rcases List.mem_or_eq_of_mem_set hs with k | rfl
  ·exact .inl k
  ·exact .inr hr
 ·have hset : ts.set i (e,v,v') = ts.take i ++ (e,v,v') :: ts.drop (i + 1):=by rw [List.set_eq_take_append_cons_drop,if_pos hi]
  rw [List.length_set,hset,tCells_app,show (e,v,v') :: ts.drop (i + 1) = [(e,v,v')] ++ ts.drop (i + 1) from rfl,tCells_app,tCells_sole,tCells_take ts i (by omega),tCells_drop ts (i + 1) (by omega),<- xb];have h2:=h1.1;rw [hl] at h2;rw [show (i + 1) * 13 = i * 13 + 13 by omega];exact h2
theorem RowT.ev {lo n c g : Nat} {w : World} {ts : List (Ev × Value × Value)} (h : RowT lo w (.slice (some ⟨g,0,none⟩) n c) ts) (j : Nat) (t : Ev × Value × Value) (ht : ts[j]? = some t) : EvC g (j * 13) t.1 t.2.1 t.2.2 w:=by
 have h0:=seg_c (w:=w) (b:=g) (o:=0) (ts:=ts) (fun j u hj => by
  have:=h.row.cells (g:=g) rfl j u hj;rw [Addr.add_lit] at this;exact this) j t ht
 rw [xm] at h0;exact h0
end Go.Proofs.YtcomifbfldoeiaaGreatDoor
namespace Tt
open Go Go.Lib
def wkGo : Nat -> Int -> List UInt8 -> Int × List UInt8
 | 0,set,s => if 0 < set then (0,[]) else (0,s)
 | f + 1,set,s =>
  if hasPrefix s (nameW (6 - f)) = true then
   (if hasPrefix (trimPrefix s (nameW (6 - f))) [44] = true then wkGo f (set + 2 ^ (6 - f)) (trimPrefix (trimPrefix s (nameW (6 - f))) [44]) else (set + 2 ^ (6 - f),trimPrefix s (nameW (6 - f))))
  else wkGo f set s
theorem or_bit0 : ∀ k : Nat,k < 7 -> ∀ v : Nat,v < 2 ^ k -> bits BinOp.or IntKind.i64 (v : Int) (2 ^ k : Int) = (v : Int) + 2 ^ k:=by decide
theorem wrap_pow {k : Nat} (h : k < 7) : RowKit.wrap64 (2 ^ k) = 2 ^ k:=by
 match k,h with
 | 0,_ | 1,_ | 2,_ | 3,_ | 4,_ | 5,_ | 6,_ => (unfold RowKit.wrap64;omega)
theorem or_bit (k : Nat) (h : k < 7) (v : Nat) (hv : v < 2 ^ k) : bits BinOp.or IntKind.i64 (v : Int) (RowKit.wrap64 (2 ^ k)) = ((v + 2 ^ k : Nat) : Int):=by
 rw [wrap_pow h,or_bit0 k h v hv];push_cast;rfl
theorem name_cut {k : Nat} (h : k < 7) : (⟨#[77,79,84,85,87,69,84,72,70,82,83,65,83,85]⟩ : ByteArray).extract (2 * k) (2 * k + 2) = ⟨(nameW k).toArray⟩:=by
 refine Go.Proofs.YtcomifbfldoeiaaGreatDoor.mk_bytes ?_;rw [Lib.extract_data];match k,h with
 | 0,_ | 1,_ | 2,_ | 3,_ | 4,_ | 5,_ | 6,_ => rfl
end Tt
namespace Go.Proofs.YtcomifbfldoeiaaGreatDoor
open Go.RowKit
theorem weekdays257 (s : ByteArray) (w : World) :
  Calls Tryz.prog 238 #[.string s] w fun e w' => e = .returned (.tuple #[.int .i64 (Tt.wkGo 7 0 s.data.toList).1,.string ⟨(Tt.wkGo 7 0 s.data.toList).2.toArray⟩]) /\ w' = w:=by
 go_enter Tryz.func238,Tryz.ntmps238;go_wp2_with fail;go_loopw [0,4,8] (fun sv nv iv wr => ∃ (k v : Nat) (t : ByteArray),k <= 7 /\ iv = .int .i64 k /\ nv = .int .i64 v /\ sv = .string t /\ v < 2 ^ k /\ Hid (Tt.wkGo 7 0 s.data.toList = Tt.wkGo (7 - k) v t.data.toList) /\ Hid (wr = w)) (fun _ _ iv _ => 7 - (intOf iv).toNat)
 case atStart => exact ⟨0,0,s,xh _,rfl,rfl,rfl,by decide,Lh rfl,Lh rfl⟩
 case round =>
  obtain ⟨k,v,t,hk,rfl,rfl,rfl,hv,HG,HW⟩:=hrel;by_cases hlt : k < 7
  ·have hki : (k : Int) < 7:=by omega
   have hk0 : (0 : Int) <= 2 * (k : Int) /\ 2 * (k : Int) + 2 <= 14:=by omega
   obtain ⟨P,hP⟩ : ∃ P,P = Lib.hasPrefix t.data.toList (Tt.nameW k):=⟨_,rfl⟩
   obtain ⟨T1,hT1⟩ : ∃ T1 : ByteArray,T1 = ⟨(Lib.trimPrefix t.data.toList (Tt.nameW k)).toArray⟩:=⟨_,rfl⟩
   obtain ⟨P2,hP2⟩ : ∃ P,P = Lib.hasPrefix T1.data.toList [44]:=⟨_,rfl⟩
   obtain ⟨T2,hT2⟩ : ∃ q : ByteArray,q = ⟨(Lib.trimPrefix T1.data.toList [44]).toArray⟩:=⟨_,rfl⟩
   have HC1 : Hid (∀ W,Calls Tryz.prog 177 #[.string t,.string ((⟨#[77,79,84,85,87,69,84,72,70,82,83,65,83,85]⟩ : ByteArray).extract (2 * k) (2 * k + 2))] W fun e w' => e = .returned (.tuple #[.string T1,.bool P]) /\ w' = W):=Lh (fun W => by
    rw [Tt.name_cut hlt,hT1,hP];exact Tryz.strings_CutPrefix t ⟨(Tt.nameW k).toArray⟩ W)
   have HC2 : Hid (∀ W,Calls Tryz.prog 177 #[.string T1,.string ⟨#[44]⟩] W fun e w' => e = .returned (.tuple #[.string T2,.bool P2]) /\ w' = W):=Lh (fun W => by
    rw [hT2,hP2];exact Tryz.strings_CutPrefix T1 ⟨#[44]⟩ W)
   have HST:=Lh (show Tt.wkGo (7 - k) v t.data.toList = if P = true then (if P2 = true then Tt.wkGo (7 - (k + 1)) ((v : Int) + 2 ^ k) T2.data.toList else ((v : Int) + 2 ^ k,T1.data.toList)) else Tt.wkGo (7 - (k + 1)) v t.data.toList from by
    rw [show 7 - k = (6 - k) + 1 by omega,Tt.wkGo,show 6 - (6 - k) = k by omega,show 7 - (k + 1) = 6 - k by omega,<- hP,hP2,hT2,hT1])
   have hor:=Tt.or_bit k hlt v hv;have hp2 : 2 ^ (k + 1) = 2 ^ k + 2 ^ k:=by rw [Nat.pow_succ];omega
   have hv2 : v + 2 ^ k < 2 ^ (k + 1):=by omega
   have hv3 : v < 2 ^ (k + 1):=by omega
   obtain ⟨v',hv'⟩ : ∃ v',v' = v + 2 ^ k:=⟨_,rfl⟩
   have hvv : (v : Int) + 2 ^ k = (v' : Int):=by rw [hv'];push_cast;rfl
   rw [<- hv'] at hor hv2;rw [hvv] at HST;have hv4 : v' < 128:=xf hv2 (Nat.pow_le_pow_right (by decide) (show k + 1 <= 7 by omega));have HOR:=Lh hor;clear hP hT1 hP2 hT2 hp2 hor hv' hvv;go_wp2_with fail;refine (HC1.out wr).mono ?_;rintro e w1 ⟨rfl,rfl⟩;cases P
   ·have HG2:=Lh (show Tt.wkGo 7 0 s.data.toList = Tt.wkGo (7 - (k + 1)) v t.data.toList from by rw [HG.out,HST.out];rfl);clear HG HST HC1 HC2 HOR;go_wp2_with fail;go_roundw
    case rel => exact ⟨k + 1,v,t,by omega,by go_num,rfl,rfl,hv3,HG2,HW⟩
    case measure => simp [intOf];omega
   ·cases P2
    ·have HG2:=Lh (show Tt.wkGo 7 0 s.data.toList = ((v' : Int),T1.data.toList) from by rw [HG.out,HST.out];rfl);clear HG HST HC1;go_wp2_with fail;refine (HC2.out _).mono ?_;rintro e w2 ⟨rfl,rfl⟩;rw [HOR.out];go_wp2_with fail;go_ret2;exact ⟨by rw [HG2.out,Lib.mk_data];rfl,HW.out⟩
    ·have HG2:=Lh (show Tt.wkGo 7 0 s.data.toList = Tt.wkGo (7 - (k + 1)) v' T2.data.toList from by rw [HG.out,HST.out];rfl);clear HG HST HC1;go_wp2_with fail;refine (HC2.out _).mono ?_;rintro e w2 ⟨rfl,rfl⟩;rw [HOR.out];go_wp2_with fail;go_roundw
     case rel => exact ⟨k + 1,v',T2,by omega,by go_num,rfl,rfl,hv2,HG2,HW⟩
     case measure => simp [intOf];omega
  ·have hk7 : k = 7:=by omega
   have hki : ¬ (k : Int) < 7:=by omega
   have HE:=Lh (show Tt.wkGo 7 0 s.data.toList = if (0 : Int) < v then (0,[]) else (0,t.data.toList) from by rw [HG.out,hk7];rfl);clear hk7 HG;by_cases h0 : (0 : Int) < v
   ·have HE2:=Lh (show Tt.wkGo 7 0 s.data.toList = (0,[]) from by rw [HE.out,if_pos h0]);go_wp2_with fail;go_ret2;exact ⟨by rw [HE2.out];rfl,HW.out⟩
   ·have HE2:=Lh (show Tt.wkGo 7 0 s.data.toList = (0,t.data.toList) from by rw [HE.out,if_neg h0]);go_wp2_with fail;go_ret2;exact ⟨by rw [HE2.out,Lib.mk_data];rfl,HW.out⟩
end Go.Proofs.YtcomifbfldoeiaaGreatDoor
namespace Tt
open Go
def orW (c : List UInt8) (v k : Nat) : Nat:=(List.range k).foldl (fun v j => if c = nameW j then v ||| 2 ^ j else v) v
def wdR : Nat -> List UInt8 -> Nat -> Nat
 | 0,_,v => v
 | n + 1,l,v => if 2 <= l.length then wdR n (l.drop 3) (orW (l.take 2) v 7) else v
theorem wdR_go {n : Nat} {l : List UInt8} (v : Nat) (h : 2 <= l.length) (hn : 0 < n) : wdR n l v = wdR (n - 1) (l.drop 3) (orW (l.take 2) v 7):=by
 cases n with
 | zero => omega
 | succ n => rw [wdR,if_pos h];rfl
theorem wdR_end {n : Nat} {l : List UInt8} (v : Nat) (h : l.length < 2) : wdR n l v = v:=by
 cases n with
 | zero => rfl
 | succ n => rw [wdR,if_neg (by omega)]
def numS (l : List UInt8) : Int:=if l.all isDig = true then digV l else -1
def dayR (t : List UInt8) : Int × Int:=dayV (numS ((t.drop (t.length - 8)).take 4)) (numS (((t.drop (t.length - 8)).drop 4).take 2)) (numS ((t.drop (t.length - 8)).drop 6))
def parS (f : Int) (t : List UInt8) : Ser:=⟨f,(dayR t).1,numS ((t.drop 21).take 1),wdR t.length ((t.take (t.length - 15)).drop 29) 0,[],[]⟩
def parR (f : Int) (t : List UInt8) : Ser :=
 if isD f = false then ⟨0,0,0,0,[],[]⟩
 else if t.length < 44 then ⟨0,0,0,0,[],[]⟩
 else if numS ((t.drop 21).take 1) < 0 then ⟨0,0,0,0,[],[]⟩
 else if (dayR t).2 ≠ 0 then ⟨0,0,0,0,[],[]⟩
 else if ruleL (parS f t) ≠ t then ⟨0,0,0,0,[],[]⟩
 else if serV (parS f t) ≠ 0 then ⟨0,0,0,0,[],[]⟩
 else parS f t
end Tt
namespace Go.Proofs.YtcomifbfldoeiaaGreatDoor
open Go.RowKit
theorem text181 (b g o cap : Nat) (xs : List ByteArray) (z s : ByteArray) (bad : Bool) (w : World) (hpar : Par b g o cap xs z bad w) (hg : g < w.heap.size) (hs : s.size <= 70368744177664) :
  Calls Tryz.prog 181 #[.pointer (some ⟨b,0,none⟩),.string s] w fun e w' => e = .returned (.string (unescS s.data.toList)) /\ Par b g o cap xs z (bad || !unescB s.data.toList) w' /\ But b w.heap.size w w':=by
 have HU:=unescape_any s w hs;obtain ⟨U,hU⟩ : ∃ U,U = unescB s.data.toList:=⟨_,rfl⟩
 obtain ⟨T,hT⟩ : ∃ T,T = unescS s.data.toList:=⟨_,rfl⟩
 rw [<- hU,<- hT] at HU ⊢;have HUU:=Lh HU;clear HU hU hT;go_enter Tryz.func181,Tryz.ntmps181;go_wp2_with fail;refine HUU.out.mono ?_;rintro e w1 ⟨rfl,hbel⟩;have hp1:=hpar.below hbel hg;have c2:=hp1.c2;have hf:=hp1.f0 2;clear hpar HUU;cases bad <;> cases U
 all_goals
  go_wp2_with fail;go_ret;exact ⟨rfl,hp1.set2 _,(But.of_below (b:=b) hbel).trans ((only_set w1 b 2 _).but)⟩
end Go.Proofs.YtcomifbfldoeiaaGreatDoor
namespace Go.Proofs
open Go.Shelf Go.RowKit
theorem Tryz.laysC172 : Go.Proofs.LaysC.n172 Tryz.prog Tryz.lays172_ren:={
 Tryz.lays172 with
 t80:=Tryz.underlying158
 a80:=Tryz.isAgg158
 z80:=Tryz.sizeOf158
 v80:=Tryz.zeroValue158
 i0:=by kernel_rfl
 i2:=by kernel_rfl
 i3:=by kernel_rfl
 i4:=by kernel_rfl
 i5:=by kernel_rfl
 i9:=by kernel_rfl
 i20:=by kernel_rfl
 i21:=by kernel_rfl
 i37:=by kernel_rfl
 i46:=by kernel_rfl
 i51:=by kernel_rfl
 i53:=by kernel_rfl
 i75:=by kernel_rfl
 i76:=by kernel_rfl
 i80:=by kernel_rfl
 i85:=by kernel_rfl
 i127:=by kernel_rfl
 i143:=by kernel_rfl
 i145:=by kernel_rfl
 i167:=by kernel_rfl
 i168:=by kernel_rfl
 i171:=by kernel_rfl
 i173:=by kernel_rfl
 i175:=by kernel_rfl
 i210:=by kernel_rfl
 i212:=by kernel_rfl
 i232:=by kernel_rfl
 i233:=by kernel_rfl
 m15:=by kernel_rfl
 m16:=by kernel_rfl
 m17:=by kernel_rfl
 m18:=by kernel_rfl
 m19:=by kernel_rfl
 c0:=by kernel_rfl
 c2:=by kernel_rfl
 c3:=by kernel_rfl
 c4:=by kernel_rfl
 c5:=by kernel_rfl
 c9:=by kernel_rfl
 c20:=by kernel_rfl
 c21:=by kernel_rfl
 c37:=by kernel_rfl
 c46:=by kernel_rfl
 c51:=by kernel_rfl
 c53:=by kernel_rfl
 c75:=by kernel_rfl
 c76:=by kernel_rfl
 c80:=by kernel_rfl
 c85:=by kernel_rfl
 c127:=by kernel_rfl
 c143:=by kernel_rfl
 c145:=by kernel_rfl
 c167:=by kernel_rfl
 c168:=by kernel_rfl
 c171:=by kernel_rfl
 c173:=by kernel_rfl
 c175:=by kernel_rfl
 c210:=by kernel_rfl
 c212:=by kernel_rfl
 c213:=by kernel_rfl
 c232:=by kernel_rfl
 c233:=by kernel_rfl
}
theorem Tryz.strconv_Atoi_ok (s : ByteArray) (hmax : s.size <= 9223372036854775806) (v : Int) (h : Lib.atoiAll s.data.toList = .ok v) (w : World) :
  Calls Tryz.prog 176 #[.string s] w fun e w' => e = .returned (.tuple #[.int .i64 v,.nilIface]) /\ (w' = w ∨ ∃ t,w' = Lib.bytesWorld w 5 t):=Any.strconv_Atoi_ok Tryz.laysC172 s hmax v h w
theorem Tryz.strconv_Atoi_bad (s : ByteArray) (hlim : s.size <= 281474976710656) (h0 : ∀ v,Lib.atoiAll s.data.toList ≠ .ok v) (h1 : Lib.atoiAll s.data.toList ≠ .range) (ev : Value) (w : World) (hv : w.cell? ⟨4,0,none⟩ = some ev) (hev : ev = .nilIface ∨ ∃ te pe,ev = .iface te pe) :
  Calls Tryz.prog 176 #[.string s] w fun e w' => ∃ N,e = .returned (.tuple #[.int .i64 (0),.iface 312 (.pointer (some ⟨N,0,none⟩))]) /\ w.heap.size <= N /\ w'.heap[N]? = some (.cells #[.string ⟨#[65,116,111,105]⟩,.string s,ev] 336 (0,0)) /\ Below w.heap.size w w':=by
 cases h : Lib.atoiAll s.data.toList
 ·exact absurd h (h0 _)
 ·first | exact absurd h h1 | exact Any.strconv_Atoi_syntax Tryz.laysC172 s hlim h ev w hv hev
 ·first | exact absurd h h1 | exact Any.strconv_Atoi_syntax Tryz.laysC172 s hlim h ev w hv hev
theorem Tryz.strconv_Atoi_range (s : ByteArray) (hlim : s.size <= 281474976710656) (h : Lib.atoiAll s.data.toList = .range) (ev : Value) (w : World) (hv : w.cell? ⟨5,0,none⟩ = some ev) (hev : ev = .nilIface ∨ ∃ te pe,ev = .iface te pe) :
  Calls Tryz.prog 176 #[.string s] w fun e w' => ∃ N,e = .returned (.tuple #[.int .i64 (Lib.atoiSat s.data.toList),.iface 312 (.pointer (some ⟨N,0,none⟩))]) /\ w.heap.size <= N /\ w'.heap[N]? = some (.cells #[.string ⟨#[65,116,111,105]⟩,.string s,ev] 336 (0,0)) /\ Below w.heap.size w w':=Any.strconv_Atoi_range Tryz.laysC172 s hlim h ev w hv hev
end Go.Proofs
namespace Go.Proofs.YtcomifbfldoeiaaGreatDoor
open Go.RowKit
theorem day255L (y m d : Int) (w : World) (hL : Lens w) :
  Calls Tryz.prog 236 #[.int .i64 y,.int .i64 m,.int .i64 d] w fun e w' => (∃ n c : Int,e = .returned (.tuple #[.int .i64 n,.int .i64 c])) /\ w' = w:=by
 by_cases hd : -1000000 <= d /\ d <= 1000000
 ·exact (day255 y m d w hL hd.1 hd.2).mono fun e w' h => ⟨⟨_,_,h.1⟩,h.2⟩
 ·have HL:=Lh hL;clear hL;go_enter Tryz.func236,Tryz.ntmps236;by_cases h1 : y < 2000
  ·go_wp2_with fail;go_ret2;exact ⟨⟨_,_,rfl⟩,rfl⟩
  ·by_cases h2 : 2099 < y
   ·go_wp2_with fail;go_ret2;exact ⟨⟨_,_,rfl⟩,rfl⟩
   ·by_cases h3 : m < 1
    ·go_wp2_with fail;go_ret2;exact ⟨⟨_,_,rfl⟩,rfl⟩
    ·by_cases h4 : 12 < m
     ·go_wp2_with fail;go_ret2;exact ⟨⟨_,_,rfl⟩,rfl⟩
     ·by_cases h5 : d < 1
      ·go_wp2_with fail;go_ret2;exact ⟨⟨_,_,rfl⟩,rfl⟩
      ·have hml:=Tt.mlen_bd y m;have h6 : Tt.mlen y m < d:=by omega
       go_wp2_with fail;refine (length316 y m w (by omega) (by omega) (by omega) (by omega) HL.out).mono ?_;rintro e w1 ⟨rfl,hw⟩;rw [hw];clear hw w1;go_wp2_with fail;go_ret2;exact ⟨⟨_,_,rfl⟩,rfl⟩
def Errs (w : World) : Prop:=(∃ ev,w.cell? ⟨4,0,none⟩ = some ev /\ (ev = .nilIface ∨ ∃ te pe,ev = .iface te pe)) /\ ∃ ev,w.cell? ⟨5,0,none⟩ = some ev /\ (ev = .nilIface ∨ ∃ te pe,ev = .iface te pe)
theorem Errs.below {B : Nat} {w w' : World} (h : Errs w) (hB : 5 < B) (hb : Below B w w') : Errs w':=by
 obtain ⟨⟨a,h1,h2⟩,b,h3,h4⟩:=h;exact ⟨⟨a,(hb.cell (p:=⟨4,0,none⟩) (show 4 < B by omega)).trans h1,h2⟩,b,(hb.cell (p:=⟨5,0,none⟩) hB).trans h3,h4⟩
theorem atoi176L (s : ByteArray) (w : World) (hs : s.size <= 281474976710656) (hE : Errs w) :
  Calls Tryz.prog 176 #[.string s] w fun e w' => ∃ (n : Int) (v : Value),e = .returned (.tuple #[.int .i64 n,v]) /\ (v = .nilIface ∨ ∃ t p,v = .iface t p) /\ Below w.heap.size w w':=by
 obtain ⟨⟨a,h1,h2⟩,b,h3,h4⟩:=hE;by_cases hr : Lib.atoiAll s.data.toList = .range
 ·refine (Tryz.strconv_Atoi_range s hs hr b w h3 h4).mono ?_;rintro e w' ⟨N,rfl,_,_,hb⟩;exact ⟨_,_,rfl,.inr ⟨_,_,rfl⟩,hb⟩
 ·by_cases ho : ∃ v,Lib.atoiAll s.data.toList = .ok v
  ·obtain ⟨v,h⟩:=ho;refine (Tryz.strconv_Atoi_ok s (by omega) v h w).mono ?_;rintro e w' ⟨rfl,hw⟩;refine ⟨v,_,rfl,.inl rfl,?_⟩;rcases hw with rfl | ⟨t,rfl⟩
   ·exact Below.refl _ _
   ·exact Lib.bytesWorld_below _ _ _
  ·refine (Tryz.strconv_Atoi_bad s hs (fun v h => ho ⟨v,h⟩) hr a w h1 h2).mono ?_;rintro e w' ⟨N,rfl,_,_,hb⟩;exact ⟨_,_,rfl,.inr ⟨_,_,rfl⟩,hb⟩
def NumL (b g o cap : Nat) (xs : List ByteArray) (z : ByteArray) (bad : Bool) (w : World) (e : Ending) (w' : World) : Prop:=∃ (n : Int) (c : Bool),e = .returned (.int .i64 n) /\ (bad = true -> c = true) /\ Par b g o cap xs z c w' /\ But b w.heap.size w w'
theorem number106L (b g o cap : Nat) (xs : List ByteArray) (z s : ByteArray) (bad : Bool) (w : World) (hpar : Par b g o cap xs z bad w) (hg : g < w.heap.size) (hs : s.size <= 281474976710656) (hE : Errs w) :
  Calls Tryz.prog 113 #[.pointer (some ⟨b,0,none⟩),.string s] w (NumL b g o cap xs z bad w):=by
 have HP:=Lh hpar;have HE:=Lh hE;have hbl:=hpar.lt;clear hpar hE;go_enter Tryz.func113,Tryz.ntmps113;go_wp2_with fail;refine (atoi176L s w hs HE.out).mono ?_;rintro e w1 ⟨n,v,rfl,hv,hb⟩;have HP1:=Lh (HP.out.below hb hg);have HB1:=Lh (But.of_below (b:=b) hb);have c2:=HP1.out.c2;have f2:=HP1.out.f0 2;clear hb HP;cases bad
 ·rcases hv with rfl | ⟨t,p,rfl⟩
  ·go_wp2_with fail;go_ret;refine ⟨n,false,?_,fun h => (by cases h),HP1.out.set2 false,HB1.out.trans (only_set w1 b 2 _).but⟩;rfl
  ·go_wp2_with fail;go_ret;refine ⟨n,true,?_,fun _ => rfl,HP1.out.set2 true,HB1.out.trans (only_set w1 b 2 _).but⟩;rfl
 ·go_wp2_with fail;go_ret;refine ⟨n,true,?_,fun _ => rfl,HP1.out.set2 true,HB1.out.trans (only_set w1 b 2 _).but⟩;rfl
structure Left (M : Nat) (xs ys : List ByteArray) : Prop where
 le : ys.length <= xs.length
 sz : (∀ x ∈ xs,x.size <= M) -> ∀ y ∈ ys,y.size <= M
theorem Left.refl (M : Nat) (xs : List ByteArray) : Left M xs xs:=⟨xn _,fun h => h⟩
theorem Left.trans {M : Nat} {xs ys zs : List ByteArray} (h : Left M xs ys) (k : Left M ys zs) : Left M xs zs:=⟨xe k.le h.le,fun hx => k.sz (h.sz hx)⟩
theorem Left.tail (M : Nat) (x : ByteArray) (xs : List ByteArray) : Left M (x :: xs) xs:=⟨Nat.le_succ _,fun h y hy => h y (List.mem_cons_of_mem _ hy)⟩
theorem trim_size (x k : ByteArray) : (⟨(Lib.trimPrefix x.data.toList k.data.toList).toArray⟩ : ByteArray).size <= x.size:=by
 rw [size_mk,Lib.size_eq];unfold Lib.trimPrefix;split
 ·rw [xc];omega
 ·exact xn _
def TakeL (b g M : Nat) (xs : List ByteArray) (z : ByteArray) (bad : Bool) (w : World) (e : Ending) (w' : World) : Prop:=∃ (r : ByteArray) (ys : List ByteArray) (c : Bool),e = .returned (.string r) /\ r.size <= M /\ Left M xs ys /\ (bad = true -> c = true) /\ (∃ o' cap',Par b g o' cap' ys z c w') /\ Only b w w'
theorem take105L (b g o cap M : Nat) (xs : List ByteArray) (z k : ByteArray) (bad : Bool) (w : World) (hpar : Par b g o cap xs z bad w) (hM : ∀ x ∈ xs,x.size <= M) :
  Calls Tryz.prog 112 #[.pointer (some ⟨b,0,none⟩),.string k] w (TakeL b g M xs z bad w):=by
 cases xs with
 | nil =>
  have HP:=Lh hpar;have hs:=see_end b g o cap z k bad w hpar;have HS:=Lh hs;have c2:=hpar.c2;have f2:=hpar.f0 2;clear hs hpar;go_enter Tryz.func112,Tryz.ntmps112;go_wp2_with fail;refine HS.out.mono ?_;rintro e w1 ⟨rfl,hw⟩;rw [hw];clear hw w1;go_wp2_with fail;go_ret;refine ⟨⟨#[]⟩,[],true,?_,xh _,Left.refl _ _,fun _ => rfl,⟨_,_,HP.out.set2 true⟩,only_set w b 2 _⟩;rfl
 | cons x xs =>
  by_cases hp : Lib.hasPrefix x.data.toList k.data.toList = true
  ·refine (take_any b g o cap x xs z k bad w hpar hp).mono ?_;rintro e w' ⟨rfl,hq,ho⟩;exact ⟨_,xs,bad,rfl,xe (trim_size x k) (hM x (List.mem_cons_self ..)),Left.tail _ _ _,fun h => h,hq,ho⟩
  ·have hp : Lib.hasPrefix x.data.toList k.data.toList = false:=by simpa using hp
   have HP:=Lh hpar;have hs:=see_any b g o cap x xs z k bad w hpar;rw [hp] at hs;have HS:=Lh hs;have c2:=hpar.c2;have f2:=hpar.f0 2;clear hs hpar hp;go_enter Tryz.func112,Tryz.ntmps112;go_wp2_with fail;refine HS.out.mono ?_;rintro e w1 ⟨rfl,hw⟩;rw [hw];clear hw w1;go_wp2_with fail;go_ret;refine ⟨⟨#[]⟩,x :: xs,true,?_,xh _,Left.refl _ _,fun _ => rfl,⟨_,_,HP.out.set2 true⟩,only_set w b 2 _⟩;rfl
end Go.Proofs.YtcomifbfldoeiaaGreatDoor
namespace Tt
theorem wk_back' (r : List UInt8) (a b c : Nat) (ha : a < 8) (hb : b < 4) (hc : c < 4) : wkGo 7 0 (byL ((16 * a + 4 * b + c : Nat) : Int) 7 ++ 59 :: r) = (((16 * a + 4 * b + c : Nat) : Int),59 :: r):=by
 match a,ha with
 | 0,_ | 1,_ | 2,_ | 3,_ | 4,_ | 5,_ | 6,_ | 7,_ =>
  match b,hb with
  | 0,_ | 1,_ | 2,_ | 3,_ =>
   match c,hc with
   | 0,_ | 1,_ | 2,_ | 3,_ => show _ = _;kernel_rfl
theorem wk_back (r : List UInt8) {n : Int} (h0 : 0 <= n) (h1 : n < 128) : wkGo 7 0 (byL n 7 ++ 59 :: r) = (n,59 :: r):=by
 have h:=wk_back' r (n.toNat / 16) (n.toNat / 4 % 4) (n.toNat % 4) (by omega) (by omega) (by omega);rwa [show ((16 * (n.toNat / 16) + 4 * (n.toNat / 4 % 4) + n.toNat % 4 : Nat) : Int) = n from by omega] at h
end Tt
