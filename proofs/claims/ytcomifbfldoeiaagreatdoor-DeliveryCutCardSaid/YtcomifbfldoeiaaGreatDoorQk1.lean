/- The generators' dice: contracts of Mod, Next, One: an oracle that keeps the dice in memory. Plain facts on series of days: which are valid, and what their days are. No program in sight. Condition: none. Plain facts on dates: lengths of months and years, the date of a day and the day of a date. No program in sight. Condition: none. -/
import Derived.Test.YtcomifbfldoeiaaGreatDoorProg
import Derived.WalkKit
import Derived.Lib.Hide
import Derived.Deep.QuietTactic
import Derived.BigQuiet
import Derived.Lib.Split
import Derived.Test.YtcomifbfldoeiaaGreatDoorLh
open List renaming getElem?_eq_getElem->xa,mem_cons->xb,getElem?_eq_some_iff->xc,drop_eq_getElem_cons->xd,mem_append->xf
open Bool renaming and_eq_true->xe
open Nat renaming le_refl->xg
set_option maxHeartbeats 40000000
namespace Go.Proofs.YtcomifbfldoeiaaGreatDoor
open Go.RowKit
def modI (n m : Int) : Int:=if m < 1 then 0 else n % m
theorem tmod_neg_lt (n m : Int) (hm : 1 <= m) : -m < n.tmod m /\ n.tmod m < m:=by
 have h1:=Int.lt_tmod_of_pos n (show 0 < m by omega);have h2:=Int.tmod_lt_of_pos n (show 0 < m by omega);exact ⟨h1,h2⟩
theorem modI_of_tmod (n m : Int) (hm : 1 <= m) : modI n m = if n.tmod m < 0 then n.tmod m + m else n.tmod m:=by
 unfold modI;rw [if_neg (by omega)];have h:=tmod_neg_lt n m hm;have e : n % m = (n.tmod m) % m:=by
  have:=Int.tmod_add_mul_tdiv n m;conv => lhs;rw [<- this]
  rw [Int.add_mul_emod_self_left]
 rw [e];split
 ·rw [<- Int.add_emod_right];exact Int.emod_eq_of_lt (by omega) (by omega)
 ·exact Int.emod_eq_of_lt (by omega) (by omega)
theorem ret_int {k : IntKind} {a b : Int} (h : a = b) : Ending.returned (.int k a) = .returned (.int k b):=by rw [h]
theorem addr_add_block (a : Addr) (i : Nat) : (a.add i).block = a.block:=by unfold Addr.add;split <;> rfl
theorem mod_any (n m : Int) (w : World) (hm : m <= 9223372036854775807) :
  Calls Tryz.prog 27 #[.int .i64 n,.int .i64 m] w fun e w' => e = .returned (.int .i64 (modI n m)) /\ w' = w:=by
 by_cases h : m < 1
 ·go_enter Tryz.func27,Tryz.ntmps27;go_wp2;go_ret;exact ⟨by simp [modI,h],rfl⟩
 ·have hb:=tmod_neg_lt n m (by omega);have H:=Lh (modI_of_tmod n m (by omega));by_cases h2 : n.tmod m < 0
  ·go_enter Tryz.func27,Tryz.ntmps27;go_wp2;go_ret;exact ⟨ret_int (by rw [H.out,if_pos h2]),rfl⟩
  ·go_enter Tryz.func27,Tryz.ntmps27;go_wp2;go_ret;exact ⟨ret_int (by rw [H.out,if_neg (by omega)]),rfl⟩
theorem modI_lo (n m : Int) : 0 <= modI n m:=by
 unfold modI;split
 ·omega
 ·exact Int.emod_nonneg _ (by omega)
theorem modI_hi (n m : Int) (h : 1 <= m) : modI n m < m:=by
 unfold modI;rw [if_neg (by omega)];exact Int.emod_lt_of_pos _ (by omega)
theorem modI_le (n m k : Int) (h : m <= k) (hk : 0 <= k) : modI n m <= k:=by
 by_cases h1 : 1 <= m
 ·have:=modI_hi n m h1;omega
 ·unfold modI;rw [if_pos (by omega)];exact hk
structure DiceAt (b : Nat) (w : World) (ao : Option Addr) (len cap k : Nat) : Prop where
 heap : w.heap[b]? = some (.cells #[.slice ao len cap,.int .i64 k] 121 (0,0))
 used : k <= len
 few : len <= 400
 cell : ∀ i,i < len -> ∃ a n,ao = some a /\ a.block < b /\ w.cell? (a.add i) = some (.int .i64 n) /\ -9223372036854775808 <= n /\ n <= 9223372036854775807
def Dice (b : Nat) (w : World) : Prop:=∃ ao len cap k,DiceAt b w ao len cap k
theorem Dice.lt {b : Nat} {w : World} (h : Dice b w) : b < w.heap.size:=by
 obtain ⟨ao,len,cap,k,h⟩:=h;exact (Array.getElem?_eq_some_iff.1 h.heap).1
theorem Dice.kept {b : Nat} {w w' : World} {B : Nat} (h : Dice b w) (hb : b < B) (hw : Below B w w') : Dice b w':=by
 obtain ⟨ao,len,cap,k,h⟩:=h;refine ⟨ao,len,cap,k,⟨(hw.block b hb).trans h.heap,h.used,h.few,fun i hi => ?_⟩⟩;obtain ⟨a,n,ha,hlt,hc,hn⟩:=h.cell i hi;exact ⟨a,n,ha,hlt,(hw.cell (p:=a.add i) (by rw [addr_add_block];omega)).trans hc,hn⟩
def Only (b : Nat) (w w' : World) : Prop:=w'.os = w.os /\ w'.tape = w.tape /\ w'.output = w.output /\ w'.heap.size = w.heap.size /\ ∀ k,k ≠ b -> w'.heap[k]? = w.heap[k]?
theorem Only.refl (b : Nat) (w : World) : Only b w w:=⟨rfl,rfl,rfl,rfl,fun _ _ => rfl⟩
theorem Only.trans {b : Nat} {w1 w2 w3 : World} (h : Only b w1 w2) (k : Only b w2 w3) : Only b w1 w3 :=
 ⟨k.1.trans h.1,k.2.1.trans h.2.1,k.2.2.1.trans h.2.2.1,k.2.2.2.1.trans h.2.2.2.1,fun i hi => (k.2.2.2.2 i hi).trans (h.2.2.2.2 i hi)⟩
theorem Only.below {b B : Nat} {w w' : World} (h : Only b w w') (hB : B <= b) : Below B w w' :=
 ⟨h.1,h.2.1,h.2.2.1,by rw [h.2.2.2.1];exact xg _,fun k hk => h.2.2.2.2 k (by omega)⟩
theorem next_any (b : Nat) (n : Int) (w : World) (hd : Dice b w) (hn : -9223372036854775808 <= n) (hn2 : n <= 9223372036854775807) :
  Calls Tryz.prog 17 #[.pointer (some ⟨b,0,none⟩),.int .i64 n] w fun e w' => ∃ v : Int,e = .returned (.int .i64 v) /\ 0 <= v /\ (1 <= n -> v < n) /\ v <= 9223372036854775807 /\ Dice b w' /\ Only b w w':=by
 obtain ⟨ao,len,cap,k,h⟩:=hd;have c0 : w.cell? ⟨b,0,none⟩ = some (.slice ao len cap):=by simp [World.cell?,h.heap]
 have c1 : w.cell? ⟨b,1,none⟩ = some (.int .i64 (k : Int)):=by simp [World.cell?,h.heap]
 have f1 : w.frozen? ⟨b,1,none⟩ = false:=by simp [World.frozen?,h.heap]
 have hu:=h.used;have hf:=h.few;by_cases hk : len <= k
 ·go_enter Tryz.func17,Tryz.ntmps17;go_wp2_with fail;go_quiet (fail);go_wp2_with fail;go_ret;exact ⟨0,rfl,by omega,fun h => by omega,by omega,⟨ao,len,cap,k,⟨by simpa using h.heap,h.used,h.few,h.cell⟩⟩,⟨rfl,rfl,rfl,rfl,fun _ _ => rfl⟩⟩
 ·obtain ⟨a,x,rfl,hlt,hc,hx⟩:=h.cell k (by omega);have hb0 : ¬ a.block = b:=by omega
  have hne : ∀ i,(⟨b,1,none⟩ : Addr) ≠ a.add i:=fun i e => hb0 (by rw [<- addr_add_block a i,<- e])
  have hc' : (w.setCell ⟨b,1,none⟩ (.int .i64 (k + 1))).cell? (a.add k) = some (.int .i64 x):=by
   rw [World.cell?_setCell_other _ _ _ _ (hne k)];exact hc
  go_enter Tryz.func17,Tryz.ntmps17;go_wp2_with fail;go_quiet (fail)
  go_wp2_with fail;go_quiet ((go_at_call 27;exact Calls.quiet_of_same (mod_any _ _ _ (by omega))))
  go_wp2_with fail;go_ret;refine ⟨modI x n,rfl,modI_lo _ _,modI_hi _ _,?_,?_,?_⟩
  ·exact modI_le x n _ (by omega) (by omega)
  ·refine ⟨some a,len,cap,k + 1,⟨?_,by omega,hf,?_⟩⟩
   ·simp [World.setCell,Array.getElem?_modify,h.heap]
   ·intro i hi;obtain ⟨a',n',e,h1,h2,h3⟩:=h.cell i hi;cases e;refine ⟨a,n',rfl,h1,?_,h3⟩;simp only [World.cell?_drewN];rw [World.cell?_setCell_other _ _ _ _ (hne i)];exact h2
  ·refine ⟨rfl,rfl,rfl,by simp [World.setCell],fun j hj => ?_⟩;simp [World.setCell,Array.getElem?_modify,Ne.symm hj]
theorem one_any (b : Nat) (n : Int) (w : World) (hd : Dice b w) (hn : -9223372036854775807 <= n) (hn2 : n <= 9223372036854775807) :
  Calls Tryz.prog 50 #[.pointer (some ⟨b,0,none⟩),.int .i64 n] w fun e w' => ∃ v : Bool,e = .returned (.bool v) /\ Dice b w' /\ Only b w w':=by
 go_enter Tryz.func50,Tryz.ntmps50;go_wp2_with fail;refine (next_any b n _ hd (by omega) hn2).mono ?_;rintro e w1 ⟨v,rfl,h0,h1,h2,h3,h4⟩;go_wp2_with fail;go_ret;exact ⟨_,rfl,h3,h4⟩
#print axioms one_any
end Go.Proofs.YtcomifbfldoeiaaGreatDoor
namespace Tt
structure Ser where
 first : Int
 last : Int
 every : Int
 wd : Int
 ex : List Int
 xt : List Int
 deriving DecidableEq
def isD (n : Int) : Bool:=decide (0 <= n) && decide (n <= 36524)
def wk (d : Int) : Int:=(d + 5) % 7
theorem wk_bd (d : Int) : 0 <= wk d /\ wk d <= 6:=by unfold wk;omega
theorem isD_iff (n : Int) : isD n = true ↔ 0 <= n /\ n <= 36524:=by unfold isD;simp
def cnt (first every d : Int) : Bool:=decide (((d - wk d) - (first - wk first)) / 7 % every = 0)
def bit (m k : Int) : Bool:=decide (m / 2 ^ k.toNat % 2 = 1)
theorem monday_le (a b : Int) (h : a <= b) : a - wk a <= b - wk b:=by unfold wk;omega
def regB (s : Ser) (d : Int) : Bool:=decide (s.first <= d) && decide (d <= s.last) && bit s.wd (wk d) && cnt s.first s.every d
def late : Option Int -> Int -> Bool
 | none,_ => false
 | some q,d => decide (d <= q)
def listV (bad : Int) (ok : Int -> Bool) : Option Int -> List Int -> Int
 | _,[] => 0
 | p,d :: r => if late p d = true then 63 else if ok d = true then listV bad ok (some d) r else bad
def extB (s : Ser) (d : Int) : Bool:=decide (s.first <= d) && decide (d <= s.last) && !regB s d
def headV (s : Ser) : Int :=
 if (isD s.first && isD s.last) = false then 13
 else if s.last < s.first ∨ s.first + 140 < s.last then 3
 else if s.every < 1 ∨ 4 < s.every ∨ s.wd < 0 ∨ 127 < s.wd then 3
 else if 140 < (s.ex.length : Int) + s.xt.length then 2
 else 0
def serV (s : Ser) : Int :=
 if headV s ≠ 0 then headV s
 else if listV 12 (regB s) none s.ex ≠ 0 then listV 12 (regB s) none s.ex
 else listV 11 (extB s) none s.xt
structure Head (s : Ser) : Prop where
 f0 : 0 <= s.first
 f1 : s.first <= 36524
 l0 : 0 <= s.last
 l1 : s.last <= 36524
 fl : s.first <= s.last
 lf : s.last <= s.first + 140
 e0 : 1 <= s.every
 e1 : s.every <= 4
 w0 : 0 <= s.wd
 w1 : s.wd <= 127
 n : (s.ex.length : Int) + s.xt.length <= 140
theorem headV_zero (s : Ser) : headV s = 0 ↔ Head s:=by
 unfold headV;constructor
 ·intro h;split at h
  ·cases h
  ·rename_i h1
   simp only [Bool.not_eq_false,xe,isD_iff] at h1;split at h
   ·cases h
   ·split at h
    ·cases h
    ·split at h
     ·cases h
     ·exact ⟨by omega,by omega,by omega,by omega,by omega,by omega,by omega,by omega,by omega,by omega,by omega⟩
 ·intro h;obtain ⟨a1,a2,a3,a4,a5,a6,a7,a8,a9,a10,a11⟩:=h;rw [if_neg,if_neg (by omega),if_neg (by omega),if_neg (by omega)];simp only [Bool.not_eq_false,xe,isD_iff];omega
def prevO (l : List Int) (k : Nat) : Option Int:=if k = 0 then none else l[k - 1]?
theorem prevO_succ (l : List Int) (k : Nat) (d : Int) (h : l[k]? = some d) : prevO l (k + 1) = some d:=by unfold prevO;simpa using h
def listF (bad : Int) (ok : Int -> Bool) (l : List Int) (k : Nat) : Int:=listV bad ok (prevO l k) (l.drop k)
theorem listF_end (bad : Int) (ok : Int -> Bool) (l : List Int) (k : Nat) (h : l.length <= k) : listF bad ok l k = 0:=by
 unfold listF;rw [List.drop_eq_nil_of_le h];unfold listV;rfl
theorem listF_order (bad : Int) (ok : Int -> Bool) (l : List Int) (k : Nat) (d q : Int) (hd : l[k + 1]? = some d) (hq : l[k]? = some q) (h : d <= q) : listF bad ok l (k + 1) = 63:=by
 unfold listF;obtain ⟨g1,g2⟩:=xc.1 hd;rw [xd g1,g2,prevO_succ l k q hq,listV,if_pos (by simpa [late] using h)]
theorem listF_bad (bad : Int) (ok : Int -> Bool) (l : List Int) (k : Nat) (d : Int) (hd : l[k]? = some d) (h : ∀ j q,k = j + 1 -> l[j]? = some q -> q < d) (ho : ok d = false) : listF bad ok l k = bad:=by
 unfold listF;obtain ⟨g1,g2⟩:=xc.1 hd;rw [xd g1,g2,listV,if_neg,if_neg (by simp [ho])];cases k with
 | zero => simp [prevO,late]
 | succ j =>
  have hj : j < l.length:=by omega
  rw [prevO_succ l j l[j] (xa hj)];have:=h j l[j] rfl (xa hj);simp [late];omega
theorem listF_step (bad : Int) (ok : Int -> Bool) (l : List Int) (k : Nat) (d : Int) (hd : l[k]? = some d) (h : ∀ j q,k = j + 1 -> l[j]? = some q -> q < d) (ho : ok d = true) : listF bad ok l k = listF bad ok l (k + 1):=by
 unfold listF;rw [prevO_succ l k d hd];obtain ⟨g1,g2⟩:=xc.1 hd;rw [xd g1,g2,listV,if_neg,if_pos ho];cases k with
 | zero => simp [prevO,late]
 | succ j =>
  have hj : j < l.length:=by omega
  rw [prevO_succ l j l[j] (xa hj)];have:=h j l[j] rfl (xa hj);simp [late];omega
theorem listV_ok (bad : Int) (ok : Int -> Bool) (hb : bad ≠ 0) : ∀ (l : List Int) (p : Option Int),listV bad ok p l = 0 -> (∀ d ∈ l,ok d = true /\ ∀ q,p = some q -> q < d) /\ l.Pairwise (· < ·)
 | [],_,_ => ⟨by simp,List.Pairwise.nil⟩
 | d :: r,p,h => by
  rw [listV] at h;split at h
  ·cases h
  ·rename_i h1
   split at h
   ·rename_i h2
    obtain ⟨a,b⟩:=listV_ok bad ok hb r (some d) h;have hp : ∀ q,p = some q -> q < d:=by
     intro q hq;subst hq;simp [late] at h1;exact h1
    refine ⟨?_,List.pairwise_cons.2 ⟨fun x hx => (a x hx).2 d rfl,b⟩⟩;intro x hx;rcases xb.1 hx with rfl | hx
    ·exact ⟨h2,hp⟩
    ·refine ⟨(a x hx).1,fun q hq => ?_⟩;have:=hp q hq;have:=(a x hx).2 d rfl;omega
   ·exact absurd h hb
def daysFrom (a : Int) : Nat -> List Int
 | 0 => []
 | n + 1 => a :: daysFrom (a + 1) n
def span (s : Ser) : List Int:=daysFrom s.first (s.last - s.first + 1).toNat
def inB (s : Ser) (d : Int) : Bool:=(regB s d && !decide (d ∈ s.ex)) || decide (d ∈ s.xt)
def serDays (s : Ser) : List Int:=if serV s ≠ 0 then [] else (span s).filter (inB s)
theorem mem_daysFrom : ∀ (n : Nat) (a d : Int),d ∈ daysFrom a n ↔ a <= d /\ d < a + n
 | 0,a,d => by simp [daysFrom]
 | n + 1,a,d => by rw [daysFrom,xb,mem_daysFrom n];omega
theorem daysFrom_sorted : ∀ (n : Nat) (a : Int),(daysFrom a n).Pairwise (· < ·)
 | 0,_ => List.Pairwise.nil
 | n + 1,a => by
  rw [daysFrom,List.pairwise_cons];exact ⟨fun d hd => by rw [mem_daysFrom] at hd;omega,daysFrom_sorted n _⟩
theorem daysFrom_length : ∀ (n : Nat) (a : Int),(daysFrom a n).length = n
 | 0,_ => rfl
 | n + 1,a => by rw [daysFrom,List.length_cons,daysFrom_length n]
theorem daysFrom_snoc : ∀ (n : Nat) (a : Int),daysFrom a (n + 1) = daysFrom a n ++ [a + n]
 | 0,a => by simp [daysFrom]
 | n + 1,a => by
  rw [daysFrom,daysFrom_snoc n (a + 1),daysFrom,List.cons_append];congr 3;omega
theorem sorted_ext : ∀ (a b : List Int),a.Pairwise (· < ·) -> b.Pairwise (· < ·) -> (∀ x,x ∈ a ↔ x ∈ b) -> a = b
 | [],[],_,_,_ => rfl
 | [],y :: b,_,_,h => by have:=(h y).2 (by simp);cases this
 | x :: a,[],_,_,h => by have:=(h x).1 (by simp);cases this
 | x :: a,y :: b,ha,hb,h => by
  rw [List.pairwise_cons] at ha hb;have hxy : x = y:=by
   rcases xb.1 ((h x).1 (by simp)) with e | e
   ·exact e
   ·rcases xb.1 ((h y).2 (by simp)) with e2 | e2
    ·exact e2.symm
    ·have:=hb.1 x e;have:=ha.1 y e2;omega
  subst hxy;congr 1;refine sorted_ext a b ha.2 hb.2 (fun z => ?_);constructor
  ·intro hz;rcases xb.1 ((h z).1 (by simp [hz])) with e | e
   ·subst e;have:=ha.1 z hz;omega
   ·exact e
  ·intro hz;rcases xb.1 ((h z).2 (by simp [hz])) with e | e
   ·subst e;have:=hb.1 z hz;omega
   ·exact e
theorem serV_zero (s : Ser) : serV s = 0 ↔ Head s /\ listV 12 (regB s) none s.ex = 0 /\ listV 11 (extB s) none s.xt = 0:=by
 unfold serV;rw [<- headV_zero];constructor
 ·intro h;split at h
  ·contradiction
  ·rename_i h1
   split at h
   ·contradiction
   ·rename_i h2
    exact ⟨by simpa using h1,by simpa using h2,h⟩
 ·rintro ⟨h1,h2,h3⟩;rw [if_neg (by simp [h1]),if_neg (by simp [h2]),h3]
theorem serDays_sorted (s : Ser) : (serDays s).Pairwise (· < ·):=by
 unfold serDays;split
 ·exact List.Pairwise.nil
 ·exact (daysFrom_sorted _ _).filter _
theorem serDays_of (s : Ser) (h : serV s = 0) (l : List Int) (hs : l.Pairwise (· <= ·)) (hp : l.Perm (s.xt ++ (span s).filter fun d => regB s d && !decide (d ∈ s.ex))) : l = serDays s:=by
 obtain ⟨hh,h2,h3⟩:=(serV_zero s).1 h;obtain ⟨e1,e2⟩:=listV_ok 11 (extB s) (by decide) s.xt none h3;have hsp : (span s).Pairwise (· < ·):=daysFrom_sorted _ _;have hnd : (s.xt ++ (span s).filter fun d => regB s d && !decide (d ∈ s.ex)).Nodup:=by
  rw [List.nodup_append];refine ⟨e2.imp (fun h => by omega),(hsp.filter _).imp (fun h => by omega),?_⟩;intro a ha b hb e;subst e;have h4:=(e1 a ha).1;have h5:=(List.mem_filter.1 hb).2;unfold extB at h4;simp at h4 h5;rw [h4.2] at h5;exact absurd h5.1 (by decide)
 have hnd2 : l.Nodup:=hp.nodup_iff.2 hnd;have hlt : l.Pairwise (· < ·):=by
  have:=hs.and hnd2;exact this.imp (fun h => by omega)
 have hm : ∀ x,x ∈ l ↔ x ∈ serDays s:=by
  intro x;rw [hp.mem_iff,xf,List.mem_filter];unfold serDays;rw [if_neg (by simp [h]),List.mem_filter];unfold inB;constructor
  ·rintro (h6 | ⟨h6,h7⟩)
   ·refine ⟨?_,by simp [h6]⟩;have h4:=(e1 x h6).1;unfold extB at h4;simp at h4;unfold span;rw [mem_daysFrom];omega
   ·exact ⟨h6,by rw [h7];rfl⟩
  ·rintro ⟨h6,h7⟩;rw [Bool.or_eq_true] at h7;rcases h7 with h7 | h7
   ·exact .inr ⟨h6,h7⟩
   ·exact .inl (by simpa using h7)
 exact sorted_ext _ _ hlt (serDays_sorted s) hm
end Tt
namespace Tt
theorem serV_head (s : Ser) (h : headV s ≠ 0) : serV s = headV s:=by unfold serV;rw [if_pos h]
theorem serV_ex (s : Ser) (h : Head s) (k : Nat) (x : Int) (h2 : listV 12 (regB s) none s.ex = listF 12 (regB s) s.ex k) (h3 : listF 12 (regB s) s.ex k = x) (hx : x ≠ 0) : serV s = x:=by
 unfold serV;rw [if_neg (by simp [(headV_zero s).2 h]),if_pos (by rw [h2,h3];exact hx),h2,h3]
theorem serV_xt (s : Ser) (h : Head s) (k : Nat) (h1 : listV 12 (regB s) none s.ex = 0) (h2 : listV 11 (extB s) none s.xt = listF 11 (extB s) s.xt k) : serV s = listF 11 (extB s) s.xt k:=by
 unfold serV;rw [if_neg (by simp [(headV_zero s).2 h]),if_neg (by simp [h1]),h2]
end Tt
namespace Tt
theorem extB_out (s : Ser) (d : Int) (h : d < s.first ∨ s.last < d) : extB s d = false:=by
 unfold extB;rcases h with h | h
 ·rw [decide_eq_false (by omega)];rfl
 ·rw [decide_eq_false (show ¬ d <= s.last by omega)];simp
theorem extB_in (s : Ser) (d : Int) (h : ¬ (d < s.first ∨ s.last < d)) : extB s d = !regB s d:=by
 unfold extB;rw [decide_eq_true (by omega),decide_eq_true (by omega)];rfl
end Tt
namespace Tt
theorem listV_of (bad : Int) (ok : Int -> Bool) : ∀ (l : List Int) (p : Option Int),(∀ q,p = some q -> ∀ d ∈ l,q < d) -> l.Pairwise (· < ·) -> (∀ d ∈ l,ok d = true) -> listV bad ok p l = 0
 | [],_,_,_,_ => by unfold listV;rfl
 | d :: r,p,hp,hs,ho => by
  rw [List.pairwise_cons] at hs;rw [listV,if_neg,if_pos (ho d (by simp)),listV_of bad ok r (some d) (fun q hq x hx => by cases hq;exact hs.1 x hx) hs.2 (fun x hx => ho x (by simp [hx]))];cases p with
  | none => simp [late]
  | some q => have:=hp q rfl d (by simp);simp [late];omega
def Part (f l ev wd : Int) (z : Bool) (d : Int) (xs : List Int) : Prop:=xs.Pairwise (· < ·) /\ ∀ x ∈ xs,f <= x /\ x <= l /\ x < d /\ regB ⟨f,l,ev,wd,[],[]⟩ x = z
theorem Part.nil (f l ev wd : Int) (z : Bool) (d : Int) : Part f l ev wd z d []:=⟨List.Pairwise.nil,fun x h => by cases h⟩
theorem Part.up {f l ev wd : Int} {z : Bool} {d d' : Int} {xs : List Int} (h : Part f l ev wd z d xs) (hd : d <= d') : Part f l ev wd z d' xs:=⟨h.1,fun x hx => by have:=h.2 x hx;exact ⟨this.1,this.2.1,by omega,this.2.2.2⟩⟩
theorem Part.snoc {f l ev wd : Int} {z : Bool} {d : Int} {xs : List Int} (h : Part f l ev wd z d xs) (h0 : f <= d) (h1 : d <= l) (hr : regB ⟨f,l,ev,wd,[],[]⟩ d = z) : Part f l ev wd z (d + 1) (xs ++ [d]):=by
 refine ⟨List.pairwise_append.2 ⟨h.1,List.pairwise_singleton _ _,fun x hx y hy => ?_⟩,fun x hx => ?_⟩
 ·simp at hy;subst hy;exact (h.2 x hx).2.2.1
 ·rcases xf.1 hx with hx | hx
  ·have:=h.2 x hx;exact ⟨this.1,this.2.1,by omega,this.2.2.2⟩
  ·simp at hx;subst hx;exact ⟨h0,h1,by omega,hr⟩
theorem reg_of {s : Ser} {d : Int} (h0 : s.first <= d) (h1 : d <= s.last) : regB s d = (bit s.wd (wk d) && cnt s.first s.every d):=by
 unfold regB;rw [decide_eq_true h0,decide_eq_true h1];rfl
theorem cnt_of {f ev d M : Int} (hM : M = f - (f + 5) % 7) (_h : f <= d) : cnt f ev d = ((d - M) / 7 % ev == 0):=by
 unfold cnt wk;rw [show ((d - (d + 5) % 7) - (f - (f + 5) % 7)) / 7 = (d - M) / 7 by omega];rfl
theorem parts_valid {s : Ser} (h0 : 0 <= s.first) (h1 : s.first <= 36000) (hl : s.first <= s.last) (hl2 : s.last <= s.first + 80) (e0 : 1 <= s.every) (e1 : s.every <= 4) (w0 : 0 <= s.wd) (w1 : s.wd <= 127) (hn : (s.ex.length : Int) + s.xt.length <= 140) {d : Int}
  (hx : Part s.first s.last s.every s.wd true d s.ex) (ht : Part s.first s.last s.every s.wd false d s.xt) : serV s = 0:=by
 refine (serV_zero s).2 ⟨⟨by omega,by omega,by omega,by omega,hl,by omega,e0,e1,w0,w1,hn⟩,listV_of _ _ _ _ (fun q hq => by cases hq) hx.1 (fun x h => (hx.2 x h).2.2.2),listV_of _ _ _ _ (fun q hq => by cases hq) ht.1 (fun x h => ?_)⟩;have:=ht.2 x h;rw [extB_in s x (by omega),show regB s x = false from this.2.2.2];rfl
def upto (s : Ser) (d : Int) : Nat:=((daysFrom s.first (d - s.first).toNat).filter (regB s)).length
theorem upto_start (s : Ser) : upto s s.first = 0:=by unfold upto;rw [show (s.first - s.first).toNat = 0 by omega];rfl
theorem upto_step (s : Ser) (d : Int) (h : s.first <= d) : upto s (d + 1) = upto s d + if regB s d = true then 1 else 0:=by
 unfold upto;rw [show (d + 1 - s.first).toNat = (d - s.first).toNat + 1 by omega,daysFrom_snoc,List.filter_append,List.length_append,show s.first + (((d - s.first).toNat : Nat) : Int) = d by omega];by_cases hr : regB s d = true
 ·rw [if_pos hr,List.filter_cons_of_pos hr];rfl
 ·rw [if_neg hr,List.filter_cons_of_neg hr];rfl
theorem upto_le (s : Ser) (d : Int) : upto s d <= (d - s.first).toNat:=by
 unfold upto;exact Nat.le_trans (List.length_filter_le _ _) (by rw [daysFrom_length];exact xg _)
def manyV (s : Ser) : Int:=(s.xt.length : Int) - s.ex.length + ((span s).filter (regB s)).length
theorem many_upto (s : Ser) (d : Int) (h : d = s.last + 1 ∨ d = s.first /\ s.last < d) : manyV s = (s.xt.length : Int) - s.ex.length + upto s d:=by
 unfold manyV upto span;rw [show (s.last - s.first + 1).toNat = (d - s.first).toNat by omega]
theorem mem_span {s : Ser} {d : Int} (h0 : s.first <= d) (h1 : d <= s.last) : d ∈ span s:=by unfold span;rw [mem_daysFrom];omega
theorem reg_range {s : Ser} {d : Int} (h : regB s d = true) : s.first <= d /\ d <= s.last:=by
 unfold regB at h;simp only [xe,decide_eq_true_eq] at h;exact ⟨h.1.1.1,h.1.1.2⟩
theorem many_zero {s : Ser} (h : serV s = 0) (h0 : serDays s = []) : manyV s = 0:=by
 obtain ⟨hh,h2,h3⟩:=(serV_zero s).1 h;unfold serDays at h0;rw [if_neg (by simp [h])] at h0;have hno : ∀ d ∈ span s,inB s d = false:=by
  intro d hd;cases hi : inB s d with
  | false => rfl
  | true => have:=List.mem_filter.2 ⟨hd,hi⟩;rw [h0] at this;cases this
 have hxt : s.xt = []:=by
  rcases hx : s.xt with _ | ⟨x,r⟩
  ·rfl
  ·exfalso;have hm : x ∈ s.xt:=by rw [hx];simp
   have hk:=((listV_ok 11 (extB s) (by decide) s.xt none h3).1 x hm).1;have hr : s.first <= x /\ x <= s.last:=by
    rcases Int.lt_or_le x s.first with hc | hc
    ·rw [extB_out s x (.inl hc)] at hk;cases hk
    ·rcases Int.lt_or_le s.last x with hc2 | hc2
     ·rw [extB_out s x (.inr hc2)] at hk;cases hk
     ·exact ⟨hc,hc2⟩
   have:=hno x (mem_span hr.1 hr.2);unfold inB at this;rw [decide_eq_true hm,Bool.or_true] at this;cases this
 obtain ⟨e1,e2⟩:=listV_ok 12 (regB s) (by decide) s.ex none h2;have he : s.ex = (span s).filter (regB s):=by
  refine sorted_ext _ _ e2 ((daysFrom_sorted _ _).filter _) (fun x => ?_);rw [List.mem_filter];constructor
  ·intro hx;have hr:=(e1 x hx).1;exact ⟨mem_span (reg_range hr).1 (reg_range hr).2,hr⟩
  ·rintro ⟨hx,hr⟩;have:=hno x hx;unfold inB at this;rw [hr] at this;simp only [Bool.true_and,Bool.or_eq_false_iff,Bool.not_eq_false',decide_eq_true_eq] at this;exact this.1
 unfold manyV;rw [hxt,<- he];simp only [List.length_nil];omega
theorem one_valid {s : Ser} (h : Head s) : serV ⟨s.first,s.last,1,0,[],[s.first]⟩ = 0 /\ serDays ⟨s.first,s.last,1,0,[],[s.first]⟩ ≠ []:=by
 obtain ⟨a1,a2,a3,a4,hl,a6, -, -, -, -, -⟩:=h;generalize s.first = f at *;generalize s.last = l at *;have hr : regB ⟨f,l,1,0,[],[f]⟩ f = false:=by
  rw [reg_of (s:=⟨f,l,1,0,[],[f]⟩) (Int.le_refl _) hl];have : bit 0 (wk f) = false:=by unfold bit;simp
  show (bit 0 (wk f) && _) = false
  rw [this];rfl
 have hv : serV ⟨f,l,1,0,[],[f]⟩ = 0:=by
  refine (serV_zero _).2 ⟨⟨a1,a2,a3,a4,hl,a6,by simp,by simp,by simp,by simp,by simp⟩,by simp [listV],?_⟩;refine listV_of _ _ _ _ (fun q hq => by cases hq) (List.pairwise_singleton _ _) (fun x hx => ?_);simp at hx;subst hx;rw [extB_in _ _ (by simp;omega),hr];rfl
 refine ⟨hv,fun h => ?_⟩;unfold serDays at h;rw [if_neg (by simp [hv])] at h;have hm : f ∈ (span ⟨f,l,1,0,[],[f]⟩).filter (inB ⟨f,l,1,0,[],[f]⟩):=List.mem_filter.2 ⟨mem_span (s:=⟨f,l,1,0,[],[f]⟩) (Int.le_refl _) hl,by unfold inB;simp⟩;rw [h] at hm;cases hm
end Tt
namespace Tt
def mlen (y m : Int) : Int:=if m = 2 then (if y % 4 = 0 then 29 else 28) else if m = 4 ∨ m = 6 ∨ m = 9 ∨ m = 11 then 30 else 31
def ylen (y : Int) : Int:=if y % 4 = 0 then 366 else 365
def yb : Nat -> Int
 | 0 => 0
 | k + 1 => yb k + ylen (2000 + (k : Int))
def mb (y : Int) : Nat -> Int
 | 0 => 0
 | k + 1 => mb y k + mlen y ((k : Int) + 1)
theorem yb_closed : ∀ k : Nat,yb k = 365 * (k : Int) + ((k : Int) + 3) / 4
 | 0 => by decide
 | k + 1 => by
  rw [yb,yb_closed k];unfold ylen;split <;> omega
theorem ylen_bd (y : Int) : 365 <= ylen y /\ ylen y <= 366:=by unfold ylen;split <;> omega
theorem mlen_bd (y m : Int) : 28 <= mlen y m /\ mlen y m <= 31:=by unfold mlen;repeat' split <;> omega
theorem mb_bd (y : Int) : ∀ k : Nat,0 <= mb y k /\ mb y k <= 31 * (k : Int)
 | 0 => by unfold mb;omega
 | k + 1 => by have:=mb_bd y k;have:=mlen_bd y ((k : Int) + 1);unfold mb;omega
theorem mb_all (y : Int) : mb y 0 = 0 /\ mb y 1 = 31 /\ mb y 2 = 59 + (ylen y - 365) /\ mb y 3 = 90 + (ylen y - 365) /\ mb y 4 = 120 + (ylen y - 365) /\ mb y 5 = 151 + (ylen y - 365) /\ mb y 6 = 181 + (ylen y - 365) /\ mb y 7 = 212 + (ylen y - 365) /\ mb y 8 = 243 + (ylen y - 365) /\ mb y 9 = 273 + (ylen y - 365) /\ mb y 10 = 304 + (ylen y - 365) /\ mb y 11 = 334 + (ylen y - 365) /\ mb y 12 = ylen y:=by
 unfold ylen;by_cases h : y % 4 = 0
 ·simp [mb,mlen,h]
 ·simp [mb,mlen,h]
structure IsDate (day y m d : Int) : Prop where
 y0 : 2000 <= y
 y1 : y <= 2099
 m0 : 1 <= m
 m1 : m <= 12
 d0 : 1 <= d
 d1 : d <= mlen y m
 is : day = yb (y - 2000).toNat + mb y (m - 1).toNat + d - 1
def yOf (day : Int) : Int:=2000 + 4 * day / 1461
def rOf (day : Int) : Int:=day - yb (4 * day / 1461).toNat
def mGo (l r : Int) : Int:=if r < 31 then 1 else if r < 59 + l then 2 else if r < 90 + l then 3 else if r < 120 + l then 4 else if r < 151 + l then 5 else if r < 181 + l then 6 else if r < 212 + l then 7 else if r < 243 + l then 8 else if r < 273 + l then 9 else if r < 304 + l then 10 else if r < 334 + l then 11 else 12
def mOf (day : Int) : Int:=mGo (ylen (yOf day) - 365) (rOf day)
def dOf (day : Int) : Int:=rOf day - mb (yOf day) (mOf day - 1).toNat + 1
theorem IsDate.year {day y m d : Int} (h : IsDate day y m d) : y = yOf day /\ rOf day = mb y (m - 1).toNat + d - 1:=by
 obtain ⟨y0,y1,m0,m1,d0,d1,hd⟩:=h;have hk:=yb_closed (y - 2000).toNat;have hy : ((y - 2000).toNat : Int) = y - 2000:=by omega
 rw [hy] at hk;have hm:=mb_all y;have hle : 0 <= mb y (m - 1).toNat + d - 1 /\ mb y (m - 1).toNat + d - 1 < ylen y:=by
  have hb:=mb_bd y (m - 1).toNat;refine ⟨by omega,?_⟩;have hs : mb y (m - 1).toNat + mlen y m <= mb y 12:=by
   have e : mb y (m - 1).toNat + mlen y m = mb y ((m - 1).toNat + 1):=by
    rw [mb,show (((m - 1).toNat : Nat) : Int) + 1 = m by omega]
   rw [e,show (m - 1).toNat + 1 = m.toNat by omega];obtain ⟨h0,h1,h2,h3,h4,h5,h6,h7,h8,h9,h10,h11,h12⟩:=hm;have:=ylen_bd y;rcases (show m = 1 ∨ m = 2 ∨ m = 3 ∨ m = 4 ∨ m = 5 ∨ m = 6 ∨ m = 7 ∨ m = 8 ∨ m = 9 ∨ m = 10 ∨ m = 11 ∨ m = 12 by omega) with rfl | rfl | rfl | rfl | rfl | rfl | rfl | rfl | rfl | rfl | rfl | rfl
   all_goals (first | (show mb y 1 <= mb y 12;omega) | (show mb y 2 <= mb y 12;omega) | (show mb y 3 <= mb y 12;omega) | (show mb y 4 <= mb y 12;omega) | (show mb y 5 <= mb y 12;omega) | (show mb y 6 <= mb y 12;omega) | (show mb y 7 <= mb y 12;omega) | (show mb y 8 <= mb y 12;omega) | (show mb y 9 <= mb y 12;omega) | (show mb y 10 <= mb y 12;omega) | (show mb y 11 <= mb y 12;omega) | exact Int.le_refl _)
  rw [hm.2.2.2.2.2.2.2.2.2.2.2.2] at hs;omega
 have hyl : ylen y = if y % 4 = 0 then 366 else 365:=rfl
 have hq : 4 * day / 1461 = y - 2000:=by
  rw [hyl] at hle;split at hle <;> omega
 refine ⟨by unfold yOf;omega,?_⟩;unfold rOf;rw [hq];omega
theorem mlens (y : Int) : mlen y 1 = 31 /\ mlen y 2 = ylen y - 337 /\ mlen y 3 = 31 /\ mlen y 4 = 30 /\ mlen y 5 = 31 /\ mlen y 6 = 30 /\ mlen y 7 = 31 /\ mlen y 8 = 31 /\ mlen y 9 = 30 /\ mlen y 10 = 31 /\ mlen y 11 = 30 /\ mlen y 12 = 31:=by
 refine ⟨rfl,?_,rfl,rfl,rfl,rfl,rfl,rfl,rfl,rfl,rfl,rfl⟩;unfold mlen ylen;rw [if_pos rfl];split <;> rfl
theorem mGo_of {y m d : Int} (m0 : 1 <= m) (m1 : m <= 12) (d0 : 1 <= d) (d1 : d <= mlen y m) : m = mGo (ylen y - 365) (mb y (m - 1).toNat + d - 1):=by
 obtain ⟨h0,h1,h2,h3,h4,h5,h6,h7,h8,h9,h10,h11, -⟩:=mb_all y;have hle:=ylen_bd y;obtain ⟨l1,l2,l3,l4,l5,l6,l7,l8,l9,l10,l11,l12⟩:=mlens y;generalize ylen y = n at *;rcases (show m = 1 ∨ m = 2 ∨ m = 3 ∨ m = 4 ∨ m = 5 ∨ m = 6 ∨ m = 7 ∨ m = 8 ∨ m = 9 ∨ m = 10 ∨ m = 11 ∨ m = 12 by omega) with rfl | rfl | rfl | rfl | rfl | rfl | rfl | rfl | rfl | rfl | rfl | rfl
 ·rw [l1] at d1;show 1 = mGo _ (mb y 0 + d - 1)
  rw [h0];clear h0 h1 h2 h3 h4 h5 h6 h7 h8 h9 h10 h11 l1 l2 l3 l4 l5 l6 l7 l8 l9 l10 l11 l12;unfold mGo;rw [if_pos (by omega)]
 ·rw [l2] at d1;show 2 = mGo _ (mb y 1 + d - 1)
  rw [h1];clear h0 h1 h2 h3 h4 h5 h6 h7 h8 h9 h10 h11 l1 l2 l3 l4 l5 l6 l7 l8 l9 l10 l11 l12;unfold mGo;rw [if_neg (by omega),if_pos (by omega)]
 ·rw [l3] at d1;show 3 = mGo _ (mb y 2 + d - 1)
  rw [h2];clear h0 h1 h2 h3 h4 h5 h6 h7 h8 h9 h10 h11 l1 l2 l3 l4 l5 l6 l7 l8 l9 l10 l11 l12;unfold mGo;rw [if_neg (by omega),if_neg (by omega),if_pos (by omega)]
 ·rw [l4] at d1;show 4 = mGo _ (mb y 3 + d - 1)
  rw [h3];clear h0 h1 h2 h3 h4 h5 h6 h7 h8 h9 h10 h11 l1 l2 l3 l4 l5 l6 l7 l8 l9 l10 l11 l12;unfold mGo;rw [if_neg (by omega),if_neg (by omega),if_neg (by omega),if_pos (by omega)]
 ·rw [l5] at d1;show 5 = mGo _ (mb y 4 + d - 1)
  rw [h4];clear h0 h1 h2 h3 h4 h5 h6 h7 h8 h9 h10 h11 l1 l2 l3 l4 l5 l6 l7 l8 l9 l10 l11 l12;unfold mGo;rw [if_neg (by omega),if_neg (by omega),if_neg (by omega),if_neg (by omega),if_pos (by omega)]
 ·rw [l6] at d1;show 6 = mGo _ (mb y 5 + d - 1)
  rw [h5];clear h0 h1 h2 h3 h4 h5 h6 h7 h8 h9 h10 h11 l1 l2 l3 l4 l5 l6 l7 l8 l9 l10 l11 l12;unfold mGo;rw [if_neg (by omega),if_neg (by omega),if_neg (by omega),if_neg (by omega),if_neg (by omega),if_pos (by omega)]
 ·rw [l7] at d1;show 7 = mGo _ (mb y 6 + d - 1)
  rw [h6];clear h0 h1 h2 h3 h4 h5 h6 h7 h8 h9 h10 h11 l1 l2 l3 l4 l5 l6 l7 l8 l9 l10 l11 l12;unfold mGo;rw [if_neg (by omega),if_neg (by omega),if_neg (by omega),if_neg (by omega),if_neg (by omega),if_neg (by omega),if_pos (by omega)]
 ·rw [l8] at d1;show 8 = mGo _ (mb y 7 + d - 1)
  rw [h7];clear h0 h1 h2 h3 h4 h5 h6 h7 h8 h9 h10 h11 l1 l2 l3 l4 l5 l6 l7 l8 l9 l10 l11 l12;unfold mGo;rw [if_neg (by omega),if_neg (by omega),if_neg (by omega),if_neg (by omega),if_neg (by omega),if_neg (by omega),if_neg (by omega),if_pos (by omega)]
 ·rw [l9] at d1;show 9 = mGo _ (mb y 8 + d - 1)
  rw [h8];clear h0 h1 h2 h3 h4 h5 h6 h7 h8 h9 h10 h11 l1 l2 l3 l4 l5 l6 l7 l8 l9 l10 l11 l12;unfold mGo;rw [if_neg (by omega),if_neg (by omega),if_neg (by omega),if_neg (by omega),if_neg (by omega),if_neg (by omega),if_neg (by omega),if_neg (by omega),if_pos (by omega)]
 ·rw [l10] at d1;show 10 = mGo _ (mb y 9 + d - 1)
  rw [h9];clear h0 h1 h2 h3 h4 h5 h6 h7 h8 h9 h10 h11 l1 l2 l3 l4 l5 l6 l7 l8 l9 l10 l11 l12;unfold mGo;rw [if_neg (by omega),if_neg (by omega),if_neg (by omega),if_neg (by omega),if_neg (by omega),if_neg (by omega),if_neg (by omega),if_neg (by omega),if_neg (by omega),if_pos (by omega)]
 ·rw [l11] at d1;show 11 = mGo _ (mb y 10 + d - 1)
  rw [h10];clear h0 h1 h2 h3 h4 h5 h6 h7 h8 h9 h10 h11 l1 l2 l3 l4 l5 l6 l7 l8 l9 l10 l11 l12;unfold mGo;rw [if_neg (by omega),if_neg (by omega),if_neg (by omega),if_neg (by omega),if_neg (by omega),if_neg (by omega),if_neg (by omega),if_neg (by omega),if_neg (by omega),if_neg (by omega),if_pos (by omega)]
 ·rw [l12] at d1;show 12 = mGo _ (mb y 11 + d - 1)
  rw [h11];clear h0 h1 h2 h3 h4 h5 h6 h7 h8 h9 h10 h11 l1 l2 l3 l4 l5 l6 l7 l8 l9 l10 l11 l12;unfold mGo;rw [if_neg (by omega),if_neg (by omega),if_neg (by omega),if_neg (by omega),if_neg (by omega),if_neg (by omega),if_neg (by omega),if_neg (by omega),if_neg (by omega),if_neg (by omega),if_neg (by omega)]
theorem IsDate.of {day y m d : Int} (h : IsDate day y m d) : y = yOf day /\ m = mOf day /\ d = dOf day:=by
 obtain ⟨hy,hr⟩:=h.year;have hm : m = mOf day:=by
  unfold mOf;rw [hr,<- hy];exact mGo_of h.m0 h.m1 h.d0 h.d1
 refine ⟨hy,hm,?_⟩;unfold dOf;rw [<- hm,<- hy,hr];omega
theorem month_some {y r : Int} (h0 : 0 <= r) (h1 : r < ylen y) : ∃ j : Nat,j <= 11 /\ mb y j <= r /\ r < mb y j + mlen y ((j : Int) + 1):=by
 have hle:=ylen_bd y;by_cases c1 : r < 31
 ·exact ⟨0,by decide,by rw [(mb_all y).1];omega,by rw [(mb_all y).1];show r < _ + mlen y 1;rw [(mlens y).1];omega⟩
 by_cases c2 : r < 59 + (ylen y - 365)
 ·exact ⟨1,by decide,by rw [(mb_all y).2.1];omega,by rw [(mb_all y).2.1];show r < _ + mlen y 2;rw [(mlens y).2.1];omega⟩
 clear c1;by_cases c3 : r < 90 + (ylen y - 365)
 ·exact ⟨2,by decide,by rw [(mb_all y).2.2.1];omega,by rw [(mb_all y).2.2.1];show r < _ + mlen y 3;rw [(mlens y).2.2.1];omega⟩
 clear c2;by_cases c4 : r < 120 + (ylen y - 365)
 ·exact ⟨3,by decide,by rw [(mb_all y).2.2.2.1];omega,by rw [(mb_all y).2.2.2.1];show r < _ + mlen y 4;rw [(mlens y).2.2.2.1];omega⟩
 clear c3;by_cases c5 : r < 151 + (ylen y - 365)
 ·exact ⟨4,by decide,by rw [(mb_all y).2.2.2.2.1];omega,by rw [(mb_all y).2.2.2.2.1];show r < _ + mlen y 5;rw [(mlens y).2.2.2.2.1];omega⟩
 clear c4;by_cases c6 : r < 181 + (ylen y - 365)
 ·exact ⟨5,by decide,by rw [(mb_all y).2.2.2.2.2.1];omega,by rw [(mb_all y).2.2.2.2.2.1];show r < _ + mlen y 6;rw [(mlens y).2.2.2.2.2.1];omega⟩
 clear c5;by_cases c7 : r < 212 + (ylen y - 365)
 ·exact ⟨6,by decide,by rw [(mb_all y).2.2.2.2.2.2.1];omega,by rw [(mb_all y).2.2.2.2.2.2.1];show r < _ + mlen y 7;rw [(mlens y).2.2.2.2.2.2.1];omega⟩
 clear c6;by_cases c8 : r < 243 + (ylen y - 365)
 ·exact ⟨7,by decide,by rw [(mb_all y).2.2.2.2.2.2.2.1];omega,by rw [(mb_all y).2.2.2.2.2.2.2.1];show r < _ + mlen y 8;rw [(mlens y).2.2.2.2.2.2.2.1];omega⟩
 clear c7;by_cases c9 : r < 273 + (ylen y - 365)
 ·exact ⟨8,by decide,by rw [(mb_all y).2.2.2.2.2.2.2.2.1];omega,by rw [(mb_all y).2.2.2.2.2.2.2.2.1];show r < _ + mlen y 9;rw [(mlens y).2.2.2.2.2.2.2.2.1];omega⟩
 clear c8;by_cases c10 : r < 304 + (ylen y - 365)
 ·exact ⟨9,by decide,by rw [(mb_all y).2.2.2.2.2.2.2.2.2.1];omega,by rw [(mb_all y).2.2.2.2.2.2.2.2.2.1];show r < _ + mlen y 10;rw [(mlens y).2.2.2.2.2.2.2.2.2.1];omega⟩
 clear c9;by_cases c11 : r < 334 + (ylen y - 365)
 ·exact ⟨10,by decide,by rw [(mb_all y).2.2.2.2.2.2.2.2.2.2.1];omega,by rw [(mb_all y).2.2.2.2.2.2.2.2.2.2.1];show r < _ + mlen y 11;rw [(mlens y).2.2.2.2.2.2.2.2.2.2.1];omega⟩
 clear c10;exact ⟨11,by decide,by rw [(mb_all y).2.2.2.2.2.2.2.2.2.2.2.1];omega,by rw [(mb_all y).2.2.2.2.2.2.2.2.2.2.2.1];show r < _ + mlen y 12;rw [(mlens y).2.2.2.2.2.2.2.2.2.2.2];omega⟩
theorem date_some {day : Int} (h0 : 0 <= day) (h1 : day <= 36524) : IsDate day (yOf day) (mOf day) (dOf day):=by
 obtain ⟨y,m,d,h⟩ : ∃ y m d,IsDate day y m d:=by
  obtain ⟨k,hk⟩ : ∃ k : Nat,(k : Int) = 4 * day / 1461:=⟨(4 * day / 1461).toNat,by omega⟩
  obtain ⟨b0,b1⟩ : 1461 * (k : Int) <= 4 * day /\ 4 * day < 1461 * (k : Int) + 1461:=by omega
  clear hk;have hyb:=yb_closed k;have hyl : ylen (2000 + (k : Int)) = if (2000 + (k : Int)) % 4 = 0 then 366 else 365:=rfl
  have hr0 : 0 <= day - yb k:=by omega
  have hr1 : day - yb k < ylen (2000 + (k : Int)):=by
   obtain ⟨q,hq⟩ : ∃ q : Nat,k = 4 * q ∨ k = 4 * q + 1 ∨ k = 4 * q + 2 ∨ k = 4 * q + 3:=⟨k / 4,by omega⟩
   rw [hyl];rcases hq with rfl | rfl | rfl | rfl <;> split <;> omega
  have hk99 : (k : Int) <= 99:=by omega
  clear hyb hyl b0 b1;obtain ⟨j,hj,g0,g1⟩:=month_some hr0 hr1;clear hr0 hr1;refine ⟨2000 + (k : Int),(j : Int) + 1,day - yb k - mb (2000 + (k : Int)) j + 1,by omega,by omega,by omega,by omega,by omega,by omega,?_⟩;rw [show (2000 + (k : Int) - 2000).toNat = k by omega,show ((j : Int) + 1 - 1).toNat = j by omega];omega
 obtain ⟨rfl,rfl,rfl⟩:=h.of;exact h
def dayV (y m d : Int) : Int × Int:=if y < 2000 ∨ 2099 < y ∨ m < 1 ∨ 12 < m ∨ d < 1 ∨ mlen y m < d then (0,13) else (yb (y - 2000).toNat + mb y (m - 1).toNat + d - 1,0)
theorem IsDate.day {day y m d : Int} (h : IsDate day y m d) : dayV y m d = (day,0):=by
 obtain ⟨y0,y1,m0,m1,d0,d1,hd⟩:=h;unfold dayV;rw [if_neg (by omega),<- hd]
end Tt
