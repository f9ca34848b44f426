/- The generators' dice: contracts of Mod, Next, One: an oracle that keeps the dice in memory. Plain facts on series of days: which are valid, and what their days are. No program in sight. Condition: none. DERIVED: THE SHELF's CONTRACTS AT THIS DUMP, IN PLAIN WORDS (tools/lay-plain.mjs out of 'the shelf command.lean', which tools/lay-shelf.mjs wrote): THE SAME DECLARATIONS UNDER THE SAME NAMES: 'import', 'namespace', 'open', 'def', 'theorem' AND NOTHING ELSE: no command of the shelf's: FOR A HAND-IN. Each laying: the table of numbers ('.._ren') and one theorem, a field a fact of the dump's own or the kernel's comparison; each contract: ONE APPLICATION. -/
import Derived.Test.YtageielcdebjlaaGreatDoorProg
import Derived.WalkKit
import Derived.Lib.Hide
import Derived.Deep.QuietTactic
import Derived.BigQuiet
import Derived.Lib.Split
import Derived.Shelf.Strings.Builder1
import Derived.Shelf.Strings.Builder2
import Derived.Shelf.Strings.OnBuilder
import Derived.Shelf.Small.Utf8
import Derived.Shelf.Small.Strs
import Derived.Shelf.Small.Wraps
import Derived.Shelf.Strings.BuilderF
import Derived.Shelf.Strings.BuilderK
import Derived.Shelf.Strconv.Atoi
import Derived.Shelf.Strconv.Itoa0
import Derived.Shelf.Strconv.Itoa1
import Derived.Shelf.LaysM
import Derived.Shelf.Strconv.Itoa2
import Derived.Shelf.Strconv.Itoa3
import Derived.Shelf.Strings.Search1
import Derived.Shelf.Strings.Search2
import Derived.Shelf.Strings.Search3
import Derived.Shelf.Strings.Cut
import Derived.Shelf.Strings.Count
import Derived.Shelf.Strings.Shaped
import Derived.Shelf.Strings.Prefix
import Derived.Shelf.Strings.Split
import Derived.Shelf.Strings.SplitShaped
import Derived.Shelf.Strings.Runes
import Derived.Shelf.Strings.IndexAny
import Derived.Shelf.Strings.AsciiSet
import Derived.Shelf.Strings.IndexAnyAll
import Derived.Shelf.Bits.Mul64
import Derived.Shelf.Strings.Repeat
import Derived.Shelf.Unicode.DecodeSlow
import Derived.Shelf.Slices.Turned
import Derived.Shelf.Slices.Equal
import Derived.Ground.Names2Prog
import Derived.Shelf.Slices.Clone
import Derived.Test.YtageielcdebjlaaGreatDoorLh
set_option maxHeartbeats 40000000
namespace Go.Proofs.YtageielcdebjlaaGreatDoor
open Go.RowKit
def modI (n m : Int) : Int:=if m < 1 then 0 else n % m
theorem tmod_neg_lt (n m : Int) (hm : 1 <= m) : -m < n.tmod m /\ n.tmod m < m:=by
 have h1:=Int.lt_tmod_of_pos n (show 0 < m by omega);have h2:=Int.tmod_lt_of_pos n (show 0 < m by omega);exact ⟨h1,h2⟩
theorem modI_of_tmod (n m : Int) (hm : 1 <= m) : modI n m = if n.tmod m < 0 then n.tmod m + m else n.tmod m:=by
 unfold modI;rw [if_neg (by omega)];have h:=tmod_neg_lt n m hm;have e : n % m = (n.tmod m) % m:=by
  have:=Int.tmod_add_mul_tdiv n m;conv => lhs;rw [<- this]
  rw [Int.add_mul_emod_self_left]
 rw [e];split
 ·rw [<- Int.add_emod_right];exact Int.emod_eq_of_lt (by omega) (by omega)
 ·exact Int.emod_eq_of_lt (by omega) (by omega)
theorem ret_int {k : IntKind} {a b : Int} (h : a = b) : Ending.returned (.int k a) = .returned (.int k b):=by rw [h]
theorem addr_add_block (a : Addr) (i : Nat) : (a.add i).block = a.block:=by unfold Addr.add;split <;> rfl
theorem mod_any (n m : Int) (w : World) (hm : m <= 9223372036854775807) :
  Calls Tryz.prog 31 #[.int .i64 n,.int .i64 m] w fun e w' => e = .returned (.int .i64 (modI n m)) /\ w' = w:=by
 by_cases h : m < 1
 ·go_enter Tryz.func31,Tryz.ntmps31;go_wp2;go_ret;exact ⟨by simp [modI,h],rfl⟩
 ·have hb:=tmod_neg_lt n m (by omega);have H:=Lh (modI_of_tmod n m (by omega));by_cases h2 : n.tmod m < 0
  ·go_enter Tryz.func31,Tryz.ntmps31;go_wp2;go_ret;exact ⟨ret_int (by rw [H.out,if_pos h2]),rfl⟩
  ·go_enter Tryz.func31,Tryz.ntmps31;go_wp2;go_ret;exact ⟨ret_int (by rw [H.out,if_neg (by omega)]),rfl⟩
theorem modI_lo (n m : Int) : 0 <= modI n m:=by
 unfold modI;split
 ·omega
 ·exact Int.emod_nonneg _ (by omega)
theorem modI_hi (n m : Int) (h : 1 <= m) : modI n m < m:=by
 unfold modI;rw [if_neg (by omega)];exact Int.emod_lt_of_pos _ (by omega)
theorem modI_le (n m k : Int) (h : m <= k) (hk : 0 <= k) : modI n m <= k:=by
 by_cases h1 : 1 <= m
 ·have:=modI_hi n m h1;omega
 ·unfold modI;rw [if_pos (by omega)];exact hk
structure DiceAt (b : Nat) (w : World) (ao : Option Addr) (len cap k : Nat) : Prop where
 heap : w.heap[b]? = some (.cells #[.slice ao len cap,.int .i64 k] 124 (0,0))
 used : k <= len
 few : len <= 400
 cell : ∀ i,i < len -> ∃ a n,ao = some a /\ a.block < b /\ w.cell? (a.add i) = some (.int .i64 n) /\ -9223372036854775808 <= n /\ n <= 9223372036854775807
def Dice (b : Nat) (w : World) : Prop:=∃ ao len cap k,DiceAt b w ao len cap k
theorem Dice.lt {b : Nat} {w : World} (h : Dice b w) : b < w.heap.size:=by
 obtain ⟨ao,len,cap,k,h⟩:=h;exact (Array.getElem?_eq_some_iff.1 h.heap).1
theorem Dice.kept {b : Nat} {w w' : World} {B : Nat} (h : Dice b w) (hb : b < B) (hw : Below B w w') : Dice b w':=by
 obtain ⟨ao,len,cap,k,h⟩:=h;refine ⟨ao,len,cap,k,⟨(hw.block b hb).trans h.heap,h.used,h.few,fun i hi => ?_⟩⟩;obtain ⟨a,n,ha,hlt,hc,hn⟩:=h.cell i hi;exact ⟨a,n,ha,hlt,(hw.cell (p:=a.add i) (by rw [addr_add_block];omega)).trans hc,hn⟩
def Only (b : Nat) (w w' : World) : Prop:=w'.os = w.os /\ w'.tape = w.tape /\ w'.output = w.output /\ w'.heap.size = w.heap.size /\ ∀ k,k ≠ b -> w'.heap[k]? = w.heap[k]?
theorem Only.trans {b : Nat} {w1 w2 w3 : World} (h : Only b w1 w2) (k : Only b w2 w3) : Only b w1 w3 :=
 ⟨k.1.trans h.1,k.2.1.trans h.2.1,k.2.2.1.trans h.2.2.1,k.2.2.2.1.trans h.2.2.2.1,fun i hi => (k.2.2.2.2 i hi).trans (h.2.2.2.2 i hi)⟩
theorem Only.below {b B : Nat} {w w' : World} (h : Only b w w') (hB : B <= b) : Below B w w' :=
 ⟨h.1,h.2.1,h.2.2.1,by rw [h.2.2.2.1];exact Nat.le_refl _,fun k hk => h.2.2.2.2 k (by omega)⟩
theorem next_any (b : Nat) (n : Int) (w : World) (hd : Dice b w) (hn : -9223372036854775808 <= n) (hn2 : n <= 9223372036854775807) :
  Calls Tryz.prog 21 #[.pointer (some ⟨b,0,none⟩),.int .i64 n] w fun e w' => ∃ v : Int,e = .returned (.int .i64 v) /\ 0 <= v /\ (1 <= n -> v < n) /\ v <= 9223372036854775807 /\ Dice b w' /\ Only b w w':=by
 obtain ⟨ao,len,cap,k,h⟩:=hd;have c0 : w.cell? ⟨b,0,none⟩ = some (.slice ao len cap):=by simp [World.cell?,h.heap]
 have c1 : w.cell? ⟨b,1,none⟩ = some (.int .i64 (k : Int)):=by simp [World.cell?,h.heap]
 have f1 : w.frozen? ⟨b,1,none⟩ = false:=by simp [World.frozen?,h.heap]
 have hu:=h.used;have hf:=h.few;by_cases hk : len <= k
 ·go_enter Tryz.func21,Tryz.ntmps21;go_wp2_with fail;go_quiet (fail);go_wp2_with fail;go_ret;exact ⟨0,rfl,by omega,fun h => by omega,by omega,⟨ao,len,cap,k,⟨by simpa using h.heap,h.used,h.few,h.cell⟩⟩,⟨rfl,rfl,rfl,rfl,fun _ _ => rfl⟩⟩
 ·obtain ⟨a,x,rfl,hlt,hc,hx⟩:=h.cell k (by omega);have hb0 : ¬ a.block = b:=by omega
  have hne : ∀ i,(⟨b,1,none⟩ : Addr) ≠ a.add i:=fun i e => hb0 (by rw [<- addr_add_block a i,<- e])
  have hc' : (w.setCell ⟨b,1,none⟩ (.int .i64 (k + 1))).cell? (a.add k) = some (.int .i64 x):=by
   rw [World.cell?_setCell_other _ _ _ _ (hne k)];exact hc
  go_enter Tryz.func21,Tryz.ntmps21;go_wp2_with fail;go_quiet (fail)
  go_wp2_with fail;go_quiet ((go_at_call 31;exact Calls.quiet_of_same (mod_any _ _ _ (by omega))))
  go_wp2_with fail;go_ret;refine ⟨modI x n,rfl,modI_lo _ _,modI_hi _ _,?_,?_,?_⟩
  ·exact modI_le x n _ (by omega) (by omega)
  ·refine ⟨some a,len,cap,k + 1,⟨?_,by omega,hf,?_⟩⟩
   ·simp [World.setCell,Array.getElem?_modify,h.heap]
   ·intro i hi;obtain ⟨a',n',e,h1,h2,h3⟩:=h.cell i hi;cases e;refine ⟨a,n',rfl,h1,?_,h3⟩;simp only [World.cell?_drewN];rw [World.cell?_setCell_other _ _ _ _ (hne i)];exact h2
  ·refine ⟨rfl,rfl,rfl,by simp [World.setCell],fun j hj => ?_⟩;simp [World.setCell,Array.getElem?_modify,Ne.symm hj]
theorem one_any (b : Nat) (n : Int) (w : World) (hd : Dice b w) (hn : -9223372036854775807 <= n) (hn2 : n <= 9223372036854775807) :
  Calls Tryz.prog 22 #[.pointer (some ⟨b,0,none⟩),.int .i64 n] w fun e w' => ∃ v : Bool,e = .returned (.bool v) /\ Dice b w' /\ Only b w w':=by
 go_enter Tryz.func22,Tryz.ntmps22;go_wp2_with fail;refine (next_any b n _ hd (by omega) hn2).mono ?_;rintro e w1 ⟨v,rfl,h0,h1,h2,h3,h4⟩;go_wp2_with fail;go_ret;exact ⟨_,rfl,h3,h4⟩
#print axioms one_any
end Go.Proofs.YtageielcdebjlaaGreatDoor
namespace Tt
structure Ser where
 first : Int
 last : Int
 every : Int
 wd : Int
 ex : List Int
 xt : List Int
 deriving DecidableEq
def isD (n : Int) : Bool:=decide (0 <= n) && decide (n <= 36524)
def wk (d : Int) : Int:=(d + 5) % 7
theorem wk_bd (d : Int) : 0 <= wk d /\ wk d <= 6:=by unfold wk;omega
theorem isD_iff (n : Int) : isD n = true ↔ 0 <= n /\ n <= 36524:=by unfold isD;simp
def cnt (first every d : Int) : Bool:=decide (((d - wk d) - (first - wk first)) / 7 % every = 0)
def bit (m k : Int) : Bool:=decide (m / 2 ^ k.toNat % 2 = 1)
theorem monday_le (a b : Int) (h : a <= b) : a - wk a <= b - wk b:=by unfold wk;omega
def regB (s : Ser) (d : Int) : Bool:=decide (s.first <= d) && decide (d <= s.last) && bit s.wd (wk d) && cnt s.first s.every d
def late : Option Int -> Int -> Bool
 | none,_ => false
 | some q,d => decide (d <= q)
def listV (bad : Int) (ok : Int -> Bool) : Option Int -> List Int -> Int
 | _,[] => 0
 | p,d :: r => if late p d = true then 63 else if ok d = true then listV bad ok (some d) r else bad
def extB (s : Ser) (d : Int) : Bool:=decide (s.first <= d) && decide (d <= s.last) && !regB s d
def headV (s : Ser) : Int :=
 if (isD s.first && isD s.last) = false then 13
 else if s.last < s.first ∨ s.first + 140 < s.last then 3
 else if s.every < 1 ∨ 4 < s.every ∨ s.wd < 0 ∨ 127 < s.wd then 3
 else if 140 < (s.ex.length : Int) + s.xt.length then 2
 else 0
def serV (s : Ser) : Int :=
 if headV s ≠ 0 then headV s
 else if listV 12 (regB s) none s.ex ≠ 0 then listV 12 (regB s) none s.ex
 else listV 11 (extB s) none s.xt
structure Head (s : Ser) : Prop where
 f0 : 0 <= s.first
 f1 : s.first <= 36524
 l0 : 0 <= s.last
 l1 : s.last <= 36524
 fl : s.first <= s.last
 lf : s.last <= s.first + 140
 e0 : 1 <= s.every
 e1 : s.every <= 4
 w0 : 0 <= s.wd
 w1 : s.wd <= 127
 n : (s.ex.length : Int) + s.xt.length <= 140
theorem headV_zero (s : Ser) : headV s = 0 ↔ Head s:=by
 unfold headV;constructor
 ·intro h;split at h
  ·cases h
  ·rename_i h1
   simp only [Bool.not_eq_false,Bool.and_eq_true,isD_iff] at h1;split at h
   ·cases h
   ·split at h
    ·cases h
    ·split at h
     ·cases h
     ·exact ⟨by omega,by omega,by omega,by omega,by omega,by omega,by omega,by omega,by omega,by omega,by omega⟩
 ·intro h;obtain ⟨a1,a2,a3,a4,a5,a6,a7,a8,a9,a10,a11⟩:=h;rw [if_neg,if_neg (by omega),if_neg (by omega),if_neg (by omega)];simp only [Bool.not_eq_false,Bool.and_eq_true,isD_iff];omega
def prevO (l : List Int) (k : Nat) : Option Int:=if k = 0 then none else l[k - 1]?
theorem prevO_succ (l : List Int) (k : Nat) (d : Int) (h : l[k]? = some d) : prevO l (k + 1) = some d:=by unfold prevO;simpa using h
def listF (bad : Int) (ok : Int -> Bool) (l : List Int) (k : Nat) : Int:=listV bad ok (prevO l k) (l.drop k)
theorem listF_end (bad : Int) (ok : Int -> Bool) (l : List Int) (k : Nat) (h : l.length <= k) : listF bad ok l k = 0:=by
 unfold listF;rw [List.drop_eq_nil_of_le h];unfold listV;rfl
theorem listF_order (bad : Int) (ok : Int -> Bool) (l : List Int) (k : Nat) (d q : Int) (hd : l[k + 1]? = some d) (hq : l[k]? = some q) (h : d <= q) : listF bad ok l (k + 1) = 63:=by
 unfold listF;obtain ⟨g1,g2⟩:=List.getElem?_eq_some_iff.1 hd;rw [List.drop_eq_getElem_cons g1,g2,prevO_succ l k q hq,listV,if_pos (by simpa [late] using h)]
theorem listF_bad (bad : Int) (ok : Int -> Bool) (l : List Int) (k : Nat) (d : Int) (hd : l[k]? = some d) (h : ∀ j q,k = j + 1 -> l[j]? = some q -> q < d) (ho : ok d = false) : listF bad ok l k = bad:=by
 unfold listF;obtain ⟨g1,g2⟩:=List.getElem?_eq_some_iff.1 hd;rw [List.drop_eq_getElem_cons g1,g2,listV,if_neg,if_neg (by simp [ho])];cases k with
 | zero => simp [prevO,late]
 | succ j =>
  have hj : j < l.length:=by omega
  rw [prevO_succ l j l[j] (List.getElem?_eq_getElem hj)];have:=h j l[j] rfl (List.getElem?_eq_getElem hj);simp [late];omega
theorem listF_step (bad : Int) (ok : Int -> Bool) (l : List Int) (k : Nat) (d : Int) (hd : l[k]? = some d) (h : ∀ j q,k = j + 1 -> l[j]? = some q -> q < d) (ho : ok d = true) : listF bad ok l k = listF bad ok l (k + 1):=by
 unfold listF;rw [prevO_succ l k d hd];obtain ⟨g1,g2⟩:=List.getElem?_eq_some_iff.1 hd;rw [List.drop_eq_getElem_cons g1,g2,listV,if_neg,if_pos ho];cases k with
 | zero => simp [prevO,late]
 | succ j =>
  have hj : j < l.length:=by omega
  rw [prevO_succ l j l[j] (List.getElem?_eq_getElem hj)];have:=h j l[j] rfl (List.getElem?_eq_getElem hj);simp [late];omega
theorem listV_ok (bad : Int) (ok : Int -> Bool) (hb : bad ≠ 0) : ∀ (l : List Int) (p : Option Int),listV bad ok p l = 0 -> (∀ d ∈ l,ok d = true /\ ∀ q,p = some q -> q < d) /\ l.Pairwise (· < ·)
 | [],_,_ => ⟨by simp,List.Pairwise.nil⟩
 | d :: r,p,h => by
  rw [listV] at h;split at h
  ·cases h
  ·rename_i h1
   split at h
   ·rename_i h2
    obtain ⟨a,b⟩:=listV_ok bad ok hb r (some d) h;have hp : ∀ q,p = some q -> q < d:=by
     intro q hq;subst hq;simp [late] at h1;exact h1
    refine ⟨?_,List.pairwise_cons.2 ⟨fun x hx => (a x hx).2 d rfl,b⟩⟩;intro x hx;rcases List.mem_cons.1 hx with rfl | hx
    ·exact ⟨h2,hp⟩
    ·refine ⟨(a x hx).1,fun q hq => ?_⟩;have:=hp q hq;have:=(a x hx).2 d rfl;omega
   ·exact absurd h hb
def daysFrom (a : Int) : Nat -> List Int
 | 0 => []
 | n + 1 => a :: daysFrom (a + 1) n
def span (s : Ser) : List Int:=daysFrom s.first (s.last - s.first + 1).toNat
def inB (s : Ser) (d : Int) : Bool:=(regB s d && !decide (d ∈ s.ex)) || decide (d ∈ s.xt)
def serDays (s : Ser) : List Int:=if serV s ≠ 0 then [] else (span s).filter (inB s)
theorem mem_daysFrom : ∀ (n : Nat) (a d : Int),d ∈ daysFrom a n ↔ a <= d /\ d < a + n
 | 0,a,d => by simp [daysFrom]
 | n + 1,a,d => by rw [daysFrom,List.mem_cons,mem_daysFrom n];omega
theorem daysFrom_sorted : ∀ (n : Nat) (a : Int),(daysFrom a n).Pairwise (· < ·)
 | 0,_ => List.Pairwise.nil
 | n + 1,a => by
  rw [daysFrom,List.pairwise_cons];exact ⟨fun d hd => by rw [mem_daysFrom] at hd;omega,daysFrom_sorted n _⟩
theorem daysFrom_length : ∀ (n : Nat) (a : Int),(daysFrom a n).length = n
 | 0,_ => rfl
 | n + 1,a => by rw [daysFrom,List.length_cons,daysFrom_length n]
theorem daysFrom_snoc : ∀ (n : Nat) (a : Int),daysFrom a (n + 1) = daysFrom a n ++ [a + n]
 | 0,a => by simp [daysFrom]
 | n + 1,a => by
  rw [daysFrom,daysFrom_snoc n (a + 1),daysFrom,List.cons_append];congr 3;omega
theorem sorted_ext : ∀ (a b : List Int),a.Pairwise (· < ·) -> b.Pairwise (· < ·) -> (∀ x,x ∈ a ↔ x ∈ b) -> a = b
 | [],[],_,_,_ => rfl
 | [],y :: b,_,_,h => by have:=(h y).2 (by simp);cases this
 | x :: a,[],_,_,h => by have:=(h x).1 (by simp);cases this
 | x :: a,y :: b,ha,hb,h => by
  rw [List.pairwise_cons] at ha hb;have hxy : x = y:=by
   rcases List.mem_cons.1 ((h x).1 (by simp)) with e | e
   ·exact e
   ·rcases List.mem_cons.1 ((h y).2 (by simp)) with e2 | e2
    ·exact e2.symm
    ·have:=hb.1 x e;have:=ha.1 y e2;omega
  subst hxy;congr 1
  refine sorted_ext a b ha.2 hb.2 (fun z => ?_);constructor
  ·intro hz;rcases List.mem_cons.1 ((h z).1 (by simp [hz])) with e | e
   ·subst e;have:=ha.1 z hz;omega
   ·exact e
  ·intro hz;rcases List.mem_cons.1 ((h z).2 (by simp [hz])) with e | e
   ·subst e;have:=hb.1 z hz;omega
   ·exact e
theorem serV_zero (s : Ser) : serV s = 0 ↔ Head s /\ listV 12 (regB s) none s.ex = 0 /\ listV 11 (extB s) none s.xt = 0:=by
 unfold serV;rw [<- headV_zero];constructor
 ·intro h;split at h
  ·contradiction
  ·rename_i h1
   split at h
   ·contradiction
   ·rename_i h2
    exact ⟨by simpa using h1,by simpa using h2,h⟩
 ·rintro ⟨h1,h2,h3⟩;rw [if_neg (by simp [h1]),if_neg (by simp [h2]),h3]
theorem serDays_sorted (s : Ser) : (serDays s).Pairwise (· < ·):=by
 unfold serDays;split
 ·exact List.Pairwise.nil
 ·exact (daysFrom_sorted _ _).filter _
theorem serDays_of (s : Ser) (h : serV s = 0) (l : List Int) (hs : l.Pairwise (· <= ·)) (hp : l.Perm (s.xt ++ (span s).filter fun d => regB s d && !decide (d ∈ s.ex))) : l = serDays s:=by
 obtain ⟨hh,h2,h3⟩:=(serV_zero s).1 h;obtain ⟨e1,e2⟩:=listV_ok 11 (extB s) (by decide) s.xt none h3;have hsp : (span s).Pairwise (· < ·):=daysFrom_sorted _ _;have hnd : (s.xt ++ (span s).filter fun d => regB s d && !decide (d ∈ s.ex)).Nodup:=by
  rw [List.nodup_append];refine ⟨e2.imp (fun h => by omega),(hsp.filter _).imp (fun h => by omega),?_⟩;intro a ha b hb e;subst e;have h4:=(e1 a ha).1;have h5:=(List.mem_filter.1 hb).2;unfold extB at h4;simp at h4 h5;rw [h4.2] at h5;exact absurd h5.1 (by decide)
 have hnd2 : l.Nodup:=hp.nodup_iff.2 hnd;have hlt : l.Pairwise (· < ·):=by
  have:=hs.and hnd2;exact this.imp (fun h => by omega)
 have hm : ∀ x,x ∈ l ↔ x ∈ serDays s:=by
  intro x;rw [hp.mem_iff,List.mem_append,List.mem_filter];unfold serDays;rw [if_neg (by simp [h]),List.mem_filter];unfold inB;constructor
  ·rintro (h6 | ⟨h6,h7⟩)
   ·refine ⟨?_,by simp [h6]⟩;have h4:=(e1 x h6).1;unfold extB at h4;simp at h4;unfold span;rw [mem_daysFrom];omega
   ·exact ⟨h6,by rw [h7];rfl⟩
  ·rintro ⟨h6,h7⟩;rw [Bool.or_eq_true] at h7;rcases h7 with h7 | h7
   ·exact .inr ⟨h6,h7⟩
   ·exact .inl (by simpa using h7)
 exact sorted_ext _ _ hlt (serDays_sorted s) hm
end Tt
namespace Tt
theorem serV_head (s : Ser) (h : headV s ≠ 0) : serV s = headV s:=by unfold serV;rw [if_pos h]
theorem serV_ex (s : Ser) (h : Head s) (k : Nat) (x : Int) (h2 : listV 12 (regB s) none s.ex = listF 12 (regB s) s.ex k) (h3 : listF 12 (regB s) s.ex k = x) (hx : x ≠ 0) : serV s = x:=by
 unfold serV;rw [if_neg (by simp [(headV_zero s).2 h]),if_pos (by rw [h2,h3];exact hx),h2,h3]
theorem serV_xt (s : Ser) (h : Head s) (k : Nat) (h1 : listV 12 (regB s) none s.ex = 0) (h2 : listV 11 (extB s) none s.xt = listF 11 (extB s) s.xt k) : serV s = listF 11 (extB s) s.xt k:=by
 unfold serV;rw [if_neg (by simp [(headV_zero s).2 h]),if_neg (by simp [h1]),h2]
end Tt
namespace Tt
theorem extB_out (s : Ser) (d : Int) (h : d < s.first ∨ s.last < d) : extB s d = false:=by
 unfold extB;rcases h with h | h
 ·rw [decide_eq_false (by omega)];rfl
 ·rw [decide_eq_false (show ¬ d <= s.last by omega)];simp
theorem extB_in (s : Ser) (d : Int) (h : ¬ (d < s.first ∨ s.last < d)) : extB s d = !regB s d:=by
 unfold extB;rw [decide_eq_true (by omega),decide_eq_true (by omega)];rfl
end Tt
namespace Tt
end Tt
namespace Go.Proofs
open Go.Shelf
def Tryz.lays170_ren : Go.Shelf.Ren:=⟨fun | 170 => 101 | n => n,fun | 70 => 140 | 3 => 3 | 0 => 0 | 72 => 142 | 37 => 76 | 5 => 5 | n => n,fun | n => n⟩
theorem Tryz.lays170 : Go.Proofs.Lays.n170 Tryz.prog Tryz.lays170_ren:={
 mixed:=by kernel_rfl
 f170:=Tryz.func101.trans (congrArg some (by kernel_rfl))
 t0:=Tryz.underlying0
 a0:=Tryz.isAgg0
 z0:=Tryz.sizeOf0
 v0:=Tryz.zeroValue0
 t3:=Tryz.underlying3
 a3:=Tryz.isAgg3
 z3:=Tryz.sizeOf3
 v3:=Tryz.zeroValue3
 t37:=Tryz.underlying76
 a37:=Tryz.isAgg76
 z37:=Tryz.sizeOf76
 v37:=Tryz.zeroValue76
 t70:=Tryz.underlying140
 a70:=Tryz.isAgg140
 z70:=Tryz.sizeOf140
 v70:=Tryz.zeroValue140
 t72:=Tryz.underlying142
 a72:=Tryz.isAgg142
 z72:=Tryz.sizeOf142
 v72:=Tryz.zeroValue142 }
open Go.RowKit in
theorem Tryz.Builder_Len (B b : Nat) (bs : List Value) (w : World) (h : Lib.IsBuilder 142 5 B b bs w) :
  Calls Tryz.prog 101 #[.pointer (some ⟨b,0,none⟩)] w fun e w' => e = .returned (.int .i64 bs.length) /\ w' = w:=Any.Builder_Len Tryz.lays170 B b bs w h
def Tryz.lays169_ren : Go.Shelf.Ren:=⟨fun | 169 => 89 | n => n,fun | 70 => 140 | 9 => 9 | 0 => 0 | 72 => 142 | 37 => 76 | 127 => 203 | 3 => 3 | 5 => 5 | n => n,fun | n => n⟩
theorem Tryz.lays169 : Go.Proofs.Lays.n169 Tryz.prog Tryz.lays169_ren:={
 mixed:=by kernel_rfl
 f169:=Tryz.func89.trans (congrArg some (by kernel_rfl))
 t0:=Tryz.underlying0
 a0:=Tryz.isAgg0
 z0:=Tryz.sizeOf0
 v0:=Tryz.zeroValue0
 t3:=Tryz.underlying3
 a3:=Tryz.isAgg3
 z3:=Tryz.sizeOf3
 v3:=Tryz.zeroValue3
 t9:=Tryz.underlying9
 a9:=Tryz.isAgg9
 z9:=Tryz.sizeOf9
 v9:=Tryz.zeroValue9
 t37:=Tryz.underlying76
 a37:=Tryz.isAgg76
 z37:=Tryz.sizeOf76
 v37:=Tryz.zeroValue76
 t70:=Tryz.underlying140
 a70:=Tryz.isAgg140
 z70:=Tryz.sizeOf140
 v70:=Tryz.zeroValue140
 t72:=Tryz.underlying142
 a72:=Tryz.isAgg142
 z72:=Tryz.sizeOf142
 v72:=Tryz.zeroValue142
 t127:=Tryz.underlying203
 a127:=Tryz.isAgg203
 z127:=Tryz.sizeOf203
 v127:=Tryz.zeroValue203 }
theorem Tryz.Builder_Extra_169 : Builder.Extra Tryz.prog Tryz.lays169_ren:={
 sizeBuilder:=by kernel_rfl
 liesBuilder:=by kernel_rfl
 t5:=Tryz.underlying5
 a5:=Tryz.isAgg5
 z5:=Tryz.sizeOf5
 v5:=Tryz.zeroValue5
 infoByte:=by kernel_rfl
 cellsByte:=by kernel_rfl
 sizeByte:=by kernel_rfl
 neB5:=by decide }
open Go.RowKit in
open Go.RowKit in
open Go.RowKit in
theorem Tryz.Builder_String_any (B b : Nat) (l : List UInt8) (w : World) (h : Lib.IsBuilder 142 5 B b (Lib.byteCells l) w) (hBw : B <= w.heap.size) :
  Calls Tryz.prog 89 #[.pointer (some ⟨b,0,none⟩)] w fun e w' => e = .returned (.string ⟨l.toArray⟩) /\ Below B w w':=Any.Builder_String_any Tryz.lays169 Tryz.Builder_Extra_169 B b l w h hBw
open Go.RowKit in
open Go.RowKit in
def Tryz.lays156_ren : Go.Shelf.Ren:=⟨fun | 156 => 249 | 165 => 307 | 166 => 93 | 169 => 89 | 240 => 160 | 241 => 340 | 276 => 239 | 277 => 353 | n => n,fun | 31 => 60 | 9 => 9 | 3 => 3 | 4 => 4 | 0 => 0 | 20 => 20 | 72 => 142 | 76 => 150 | 70 => 140 | 37 => 76 | 75 => 144 | 127 => 203 | 164 => 253 | 5 => 5 | 80 => 146 | n => n,fun | n => n⟩
theorem Tryz.lays156 : Go.Proofs.Lays.n156 Tryz.prog Tryz.lays156_ren:={
 mixed:=by kernel_rfl
 f156:=Tryz.func249.trans (congrArg some (by kernel_rfl))
 f165:=Tryz.func307.trans (congrArg some (by kernel_rfl))
 f166:=Tryz.func93.trans (congrArg some (by kernel_rfl))
 f169:=Tryz.func89.trans (congrArg some (by kernel_rfl))
 f240:=Tryz.func160.trans (congrArg some (by kernel_rfl))
 f241:=Tryz.func340.trans (congrArg some (by kernel_rfl))
 f276:=Tryz.func239.trans (congrArg some (by kernel_rfl))
 f277:=Tryz.func353.trans (congrArg some (by kernel_rfl))
 t0:=Tryz.underlying0
 a0:=Tryz.isAgg0
 z0:=Tryz.sizeOf0
 v0:=Tryz.zeroValue0
 t3:=Tryz.underlying3
 a3:=Tryz.isAgg3
 z3:=Tryz.sizeOf3
 v3:=Tryz.zeroValue3
 t4:=Tryz.underlying4
 a4:=Tryz.isAgg4
 z4:=Tryz.sizeOf4
 v4:=Tryz.zeroValue4
 t9:=Tryz.underlying9
 a9:=Tryz.isAgg9
 z9:=Tryz.sizeOf9
 v9:=Tryz.zeroValue9
 t20:=Tryz.underlying20
 a20:=Tryz.isAgg20
 z20:=Tryz.sizeOf20
 v20:=Tryz.zeroValue20
 t31:=Tryz.underlying60
 a31:=Tryz.isAgg60
 z31:=Tryz.sizeOf60
 v31:=Tryz.zeroValue60
 t37:=Tryz.underlying76
 a37:=Tryz.isAgg76
 z37:=Tryz.sizeOf76
 v37:=Tryz.zeroValue76
 t70:=Tryz.underlying140
 a70:=Tryz.isAgg140
 z70:=Tryz.sizeOf140
 v70:=Tryz.zeroValue140
 t72:=Tryz.underlying142
 a72:=Tryz.isAgg142
 z72:=Tryz.sizeOf142
 v72:=Tryz.zeroValue142
 t75:=Tryz.underlying144
 a75:=Tryz.isAgg144
 z75:=Tryz.sizeOf144
 v75:=Tryz.zeroValue144
 t76:=Tryz.underlying150
 a76:=Tryz.isAgg150
 z76:=Tryz.sizeOf150
 v76:=Tryz.zeroValue150
 t127:=Tryz.underlying203
 a127:=Tryz.isAgg203
 z127:=Tryz.sizeOf203
 v127:=Tryz.zeroValue203
 t164:=Tryz.underlying253
 a164:=Tryz.isAgg253
 z164:=Tryz.sizeOf253
 v164:=Tryz.zeroValue253 }
theorem Tryz.Builder_Extra_156 : Builder.Extra Tryz.prog Tryz.lays156_ren:={
 sizeBuilder:=by kernel_rfl
 liesBuilder:=by kernel_rfl
 t5:=Tryz.underlying5
 a5:=Tryz.isAgg5
 z5:=Tryz.sizeOf5
 v5:=Tryz.zeroValue5
 infoByte:=by kernel_rfl
 cellsByte:=by kernel_rfl
 sizeByte:=by kernel_rfl
 neB5:=by decide }
open Go.RowKit in
open Go.RowKit in
theorem Tryz.strings_Join (bk o c : Nat) (xs : List ByteArray) (sep : ByteArray) (w : World) (hcells : ∀ (j : Nat) x,xs[j]? = some x -> w.cell? ⟨bk,o + j,none⟩ = some (.string x)) (hbk : bk < w.heap.size) (hN : xs.length <= 140737488355328) (hcap : xs.length <= c) (hlen : (Lib.join (xs.map (·.data.toList)) sep.data.toList).length <= 140737488355328) :
  Calls Tryz.prog 249 #[.slice (some ⟨bk,o,none⟩) xs.length c,.string sep] w fun e w' => e = .returned (.string ⟨(Lib.join (xs.map (·.data.toList)) sep.data.toList).toArray⟩) /\ Below w.heap.size w w':=Any.strings_Join Tryz.lays156 Tryz.Builder_Extra_156 bk o c xs sep w hcells hbk hN hcap hlen
def Tryz.lays119_ren : Go.Shelf.Ren:=⟨fun | 119 => 304 | n => n,fun | 21 => 21 | 4 => 4 | n => n,fun | n => n⟩
theorem Tryz.lays119 : Go.Proofs.Lays.n119 Tryz.prog Tryz.lays119_ren:={
 mixed:=by kernel_rfl
 f119:=Tryz.func304.trans (congrArg some (by kernel_rfl))
 t4:=Tryz.underlying4
 a4:=Tryz.isAgg4
 z4:=Tryz.sizeOf4
 v4:=Tryz.zeroValue4
 t21:=Tryz.underlying21
 a21:=Tryz.isAgg21
 z21:=Tryz.sizeOf21
 v21:=Tryz.zeroValue21 }
theorem Tryz.utf8_ValidRune (r : Int) (w : World) :
  Calls Tryz.prog 304 #[.int .i32 r] w fun e w' => e = .returned (.bool (Lib.validRune r)) /\ w' = w:=Any.utf8_ValidRune Tryz.lays119 r w
open Go.RowKit in
def Tryz.lays106_ren : Go.Shelf.Ren:=⟨fun | 106 => 130 | 213 => 201 | 265 => 279 | n => n,fun | 9 => 9 | 3 => 3 | n => n,fun | n => n⟩
theorem Tryz.lays106 : Go.Proofs.Lays.n106 Tryz.prog Tryz.lays106_ren:={
 mixed:=by kernel_rfl
 f106:=Tryz.func130.trans (congrArg some (by kernel_rfl))
 f213:=Tryz.func201.trans (congrArg some (by kernel_rfl))
 f265:=Tryz.func279.trans (congrArg some (by kernel_rfl))
 t3:=Tryz.underlying3
 a3:=Tryz.isAgg3
 z3:=Tryz.sizeOf3
 v3:=Tryz.zeroValue3
 t9:=Tryz.underlying9
 a9:=Tryz.isAgg9
 z9:=Tryz.sizeOf9
 v9:=Tryz.zeroValue9 }
open Go.RowKit in
theorem Tryz.strings_Compare (a b : ByteArray) (w : World) :
  Calls Tryz.prog 130 #[.string a,.string b] w fun e w' => e = .returned (.int .i64 (Lib.compareBytes a.data.toList b.data.toList)) /\ w' = w:=Any.strings_Compare Tryz.lays106 a b w
def Tryz.lays137_ren : Go.Shelf.Ren:=⟨fun | 137 => 303 | 217 => 338 | 266 => 351 | n => n,fun | 9 => 9 | 5 => 5 | 3 => 3 | n => n,fun | n => n⟩
theorem Tryz.lays137 : Go.Proofs.Lays.n137 Tryz.prog Tryz.lays137_ren:={
 mixed:=by kernel_rfl
 f137:=Tryz.func303.trans (congrArg some (by kernel_rfl))
 f217:=Tryz.func338.trans (congrArg some (by kernel_rfl))
 f266:=Tryz.func351.trans (congrArg some (by kernel_rfl))
 t3:=Tryz.underlying3
 a3:=Tryz.isAgg3
 z3:=Tryz.sizeOf3
 v3:=Tryz.zeroValue3
 t5:=Tryz.underlying5
 a5:=Tryz.isAgg5
 z5:=Tryz.sizeOf5
 v5:=Tryz.zeroValue5
 t9:=Tryz.underlying9
 a9:=Tryz.isAgg9
 z9:=Tryz.sizeOf9
 v9:=Tryz.zeroValue9 }
open Go.RowKit in
theorem Tryz.strings_IndexByte (s : ByteArray) (c : Int) (w : World) :
  Calls Tryz.prog 303 #[.string s,.int .u8 c] w fun e w' => e = .returned (.int .i64 (Lib.indexByte s.data.toList c.toNat.toUInt8)) /\ w' = w:=Any.strings_IndexByte Tryz.lays137 s c w
open Go.RowKit in
def Tryz.lays103_ren : Go.Shelf.Ren:=⟨fun | 103 => 177 | 210 => 254 | 206 => 175 | n => n,fun | 9 => 9 | 4 => 4 | 24 => 61 | 3 => 3 | n => n,fun | n => n⟩
theorem Tryz.lays103 : Go.Proofs.Lays.n103 Tryz.prog Tryz.lays103_ren:={
 mixed:=by kernel_rfl
 f103:=Tryz.func177.trans (congrArg some (by kernel_rfl))
 f206:=Tryz.func175.trans (congrArg some (by kernel_rfl))
 f210:=Tryz.func254.trans (congrArg some (by kernel_rfl))
 t3:=Tryz.underlying3
 a3:=Tryz.isAgg3
 z3:=Tryz.sizeOf3
 v3:=Tryz.zeroValue3
 t4:=Tryz.underlying4
 a4:=Tryz.isAgg4
 z4:=Tryz.sizeOf4
 v4:=Tryz.zeroValue4
 t9:=Tryz.underlying9
 a9:=Tryz.isAgg9
 z9:=Tryz.sizeOf9
 v9:=Tryz.zeroValue9
 t24:=Tryz.underlying61
 a24:=Tryz.isAgg61
 z24:=Tryz.sizeOf61
 v24:=Tryz.zeroValue61 }
open Go.RowKit in
theorem Tryz.strings_CutPrefix (s p : ByteArray) (w : World) :
  Calls Tryz.prog 177 #[.string s,.string p] w fun e w' => e = .returned (.tuple #[.string ⟨(Lib.trimPrefix s.data.toList p.data.toList).toArray⟩,.bool (Lib.hasPrefix s.data.toList p.data.toList)]) /\ w' = w:=Any.strings_CutPrefix Tryz.lays103 s p w
open Go.RowKit in
def Tryz.lays104_ren : Go.Shelf.Ren:=⟨fun | 104 => 90 | 211 => 161 | 207 => 240 | n => n,fun | 9 => 9 | 4 => 4 | 24 => 61 | 3 => 3 | n => n,fun | n => n⟩
theorem Tryz.lays104 : Go.Proofs.Lays.n104 Tryz.prog Tryz.lays104_ren:={
 mixed:=by kernel_rfl
 f104:=Tryz.func90.trans (congrArg some (by kernel_rfl))
 f207:=Tryz.func240.trans (congrArg some (by kernel_rfl))
 f211:=Tryz.func161.trans (congrArg some (by kernel_rfl))
 t3:=Tryz.underlying3
 a3:=Tryz.isAgg3
 z3:=Tryz.sizeOf3
 v3:=Tryz.zeroValue3
 t4:=Tryz.underlying4
 a4:=Tryz.isAgg4
 z4:=Tryz.sizeOf4
 v4:=Tryz.zeroValue4
 t9:=Tryz.underlying9
 a9:=Tryz.isAgg9
 z9:=Tryz.sizeOf9
 v9:=Tryz.zeroValue9
 t24:=Tryz.underlying61
 a24:=Tryz.isAgg61
 z24:=Tryz.sizeOf61
 v24:=Tryz.zeroValue61 }
open Go.RowKit in
theorem Tryz.strings_CutSuffix (s p : ByteArray) (w : World) (hs : s.size <= 9223372036854775807) :
  Calls Tryz.prog 90 #[.string s,.string p] w fun e w' => e = .returned (.tuple #[.string ⟨(Lib.trimSuffix s.data.toList p.data.toList).toArray⟩,.bool (Lib.hasSuffix s.data.toList p.data.toList)]) /\ w' = w:=Any.strings_CutSuffix Tryz.lays104 s p w hs
open Go.RowKit in
def Tryz.lays122_ren : Go.Shelf.Ren:=⟨fun | 122 => 268 | 215 => 320 | n => n,fun | 3 => 3 | 4 => 4 | n => n,fun | n => n⟩
theorem Tryz.lays122 : Go.Proofs.Lays.n122 Tryz.prog Tryz.lays122_ren:={
 mixed:=by kernel_rfl
 f122:=Tryz.func268.trans (congrArg some (by kernel_rfl))
 f215:=Tryz.func320.trans (congrArg some (by kernel_rfl))
 t3:=Tryz.underlying3
 a3:=Tryz.isAgg3
 z3:=Tryz.sizeOf3
 v3:=Tryz.zeroValue3
 t4:=Tryz.underlying4
 a4:=Tryz.isAgg4
 z4:=Tryz.sizeOf4
 v4:=Tryz.zeroValue4 }
open Go.RowKit in
theorem Tryz.cmp_Compare_int (x y : Int) (w : World) :
  Calls Tryz.prog 268 #[.int .i64 x,.int .i64 y] w fun e w' => e = .returned (.int .i64 (Lib.compareInt x y)) /\ w' = w:=Any.cmp_Compare_int Tryz.lays122 x y w
open Go.RowKit in
open Go.RowKit in
open Go.RowKit in
open Go.RowKit in
open Go.RowKit in
open Go.RowKit in
open Go.RowKit in
open Go.RowKit in
def Tryz.lays172_ren : Go.Shelf.Ren:=⟨fun | 172 => 176 | 244 => 252 | 245 => 253 | 247 => 311 | 279 => 312 | 280 => 313 | 281 => 314 | 282 => 315 | 287 => 342 | 316 => 343 | 171 => 136 | 205 => 344 | 321 => 355 | 322 => 356 | 243 => 208 | 246 => 281 | 283 => 328 | 284 => 329 | 285 => 330 | 286 => 331 | 129 => 230 | 317 => 347 | 318 => 348 | 319 => 349 | 320 => 269 | 337 => 321 | 338 => 322 | n => n,fun | 9 => 9 | 3 => 3 | 75 => 144 | 76 => 150 | 4 => 4 | 5 => 5 | 167 => 300 | 37 => 76 | 0 => 0 | 85 => 301 | 2 => 2 | 168 => 303 | 53 => 245 | 175 => 319 | 46 => 185 | 210 => 322 | 127 => 203 | 145 => 345 | 143 => 343 | 21 => 21 | 171 => 309 | 173 => 311 | 212 => 330 | 51 => 243 | 20 => 20 | 213 => 331 | 232 => 325 | 233 => 326 | 80 => 146 | n => n,fun | 15 => 1 | 16 => 2 | 17 => 6 | 18 => 4 | 19 => 5 | n => n⟩
theorem Tryz.lays172 : Go.Proofs.Lays.n172 Tryz.prog Tryz.lays172_ren:={
 mixed:=by kernel_rfl
 f129:=Tryz.func230.trans (congrArg some (by kernel_rfl))
 f171:=Tryz.func136.trans (congrArg some (by kernel_rfl))
 f172:=Tryz.func176.trans (congrArg some (by kernel_rfl))
 f205:=Tryz.func344.trans (congrArg some (by kernel_rfl))
 f243:=Tryz.func208.trans (congrArg some (by kernel_rfl))
 f244:=Tryz.func252.trans (congrArg some (by kernel_rfl))
 f245:=Tryz.func253.trans (congrArg some (by kernel_rfl))
 f246:=Tryz.func281.trans (congrArg some (by kernel_rfl))
 f247:=Tryz.func311.trans (congrArg some (by kernel_rfl))
 f279:=Tryz.func312.trans (congrArg some (by kernel_rfl))
 f280:=Tryz.func313.trans (congrArg some (by kernel_rfl))
 f281:=Tryz.func314.trans (congrArg some (by kernel_rfl))
 f282:=Tryz.func315.trans (congrArg some (by kernel_rfl))
 f283:=Tryz.func328.trans (congrArg some (by kernel_rfl))
 f284:=Tryz.func329.trans (congrArg some (by kernel_rfl))
 f285:=Tryz.func330.trans (congrArg some (by kernel_rfl))
 f286:=Tryz.func331.trans (congrArg some (by kernel_rfl))
 f287:=Tryz.func342.trans (congrArg some (by kernel_rfl))
 f316:=Tryz.func343.trans (congrArg some (by kernel_rfl))
 f317:=Tryz.func347.trans (congrArg some (by kernel_rfl))
 f318:=Tryz.func348.trans (congrArg some (by kernel_rfl))
 f319:=Tryz.func349.trans (congrArg some (by kernel_rfl))
 f320:=Tryz.func269.trans (congrArg some (by kernel_rfl))
 f321:=Tryz.func355.trans (congrArg some (by kernel_rfl))
 f322:=Tryz.func356.trans (congrArg some (by kernel_rfl))
 f337:=Tryz.func321.trans (congrArg some (by kernel_rfl))
 f338:=Tryz.func322.trans (congrArg some (by kernel_rfl))
 t0:=Tryz.underlying0
 a0:=Tryz.isAgg0
 z0:=Tryz.sizeOf0
 v0:=Tryz.zeroValue0
 t2:=Tryz.underlying2
 a2:=Tryz.isAgg2
 z2:=Tryz.sizeOf2
 v2:=Tryz.zeroValue2
 t3:=Tryz.underlying3
 a3:=Tryz.isAgg3
 z3:=Tryz.sizeOf3
 v3:=Tryz.zeroValue3
 t4:=Tryz.underlying4
 a4:=Tryz.isAgg4
 z4:=Tryz.sizeOf4
 v4:=Tryz.zeroValue4
 t5:=Tryz.underlying5
 a5:=Tryz.isAgg5
 z5:=Tryz.sizeOf5
 v5:=Tryz.zeroValue5
 t9:=Tryz.underlying9
 a9:=Tryz.isAgg9
 z9:=Tryz.sizeOf9
 v9:=Tryz.zeroValue9
 t20:=Tryz.underlying20
 a20:=Tryz.isAgg20
 z20:=Tryz.sizeOf20
 v20:=Tryz.zeroValue20
 t21:=Tryz.underlying21
 a21:=Tryz.isAgg21
 z21:=Tryz.sizeOf21
 v21:=Tryz.zeroValue21
 t37:=Tryz.underlying76
 a37:=Tryz.isAgg76
 z37:=Tryz.sizeOf76
 v37:=Tryz.zeroValue76
 t46:=Tryz.underlying185
 a46:=Tryz.isAgg185
 z46:=Tryz.sizeOf185
 v46:=Tryz.zeroValue185
 t51:=Tryz.underlying243
 a51:=Tryz.isAgg243
 z51:=Tryz.sizeOf243
 v51:=Tryz.zeroValue243
 t53:=Tryz.underlying245
 a53:=Tryz.isAgg245
 z53:=Tryz.sizeOf245
 v53:=Tryz.zeroValue245
 t75:=Tryz.underlying144
 a75:=Tryz.isAgg144
 z75:=Tryz.sizeOf144
 v75:=Tryz.zeroValue144
 t76:=Tryz.underlying150
 a76:=Tryz.isAgg150
 z76:=Tryz.sizeOf150
 v76:=Tryz.zeroValue150
 t85:=Tryz.underlying301
 a85:=Tryz.isAgg301
 z85:=Tryz.sizeOf301
 v85:=Tryz.zeroValue301
 t127:=Tryz.underlying203
 a127:=Tryz.isAgg203
 z127:=Tryz.sizeOf203
 v127:=Tryz.zeroValue203
 t143:=Tryz.underlying343
 a143:=Tryz.isAgg343
 z143:=Tryz.sizeOf343
 v143:=Tryz.zeroValue343
 t145:=Tryz.underlying345
 a145:=Tryz.isAgg345
 z145:=Tryz.sizeOf345
 v145:=Tryz.zeroValue345
 t167:=Tryz.underlying300
 a167:=Tryz.isAgg300
 z167:=Tryz.sizeOf300
 v167:=Tryz.zeroValue300
 t168:=Tryz.underlying303
 a168:=Tryz.isAgg303
 z168:=Tryz.sizeOf303
 v168:=Tryz.zeroValue303
 t171:=Tryz.underlying309
 a171:=Tryz.isAgg309
 z171:=Tryz.sizeOf309
 v171:=Tryz.zeroValue309
 t173:=Tryz.underlying311
 a173:=Tryz.isAgg311
 z173:=Tryz.sizeOf311
 v173:=Tryz.zeroValue311
 t175:=Tryz.underlying319
 a175:=Tryz.isAgg319
 z175:=Tryz.sizeOf319
 v175:=Tryz.zeroValue319
 t210:=Tryz.underlying322
 a210:=Tryz.isAgg322
 z210:=Tryz.sizeOf322
 v210:=Tryz.zeroValue322
 t212:=Tryz.underlying330
 a212:=Tryz.isAgg330
 z212:=Tryz.sizeOf330
 v212:=Tryz.zeroValue330
 t213:=Tryz.underlying331
 a213:=Tryz.isAgg331
 z213:=Tryz.sizeOf331
 t232:=Tryz.underlying325
 a232:=Tryz.isAgg325
 z232:=Tryz.sizeOf325
 v232:=Tryz.zeroValue325
 t233:=Tryz.underlying326
 a233:=Tryz.isAgg326
 z233:=Tryz.sizeOf326
 v233:=Tryz.zeroValue326
 g15:=by kernel_rfl
 g16:=by kernel_rfl
 g17:=by kernel_rfl
 g18:=by kernel_rfl
 g19:=by kernel_rfl }
open Go.RowKit in
theorem Tryz.strconv_Atoi (s : ByteArray) (n : Int) (hl : s.size <= 18) (h : Lib.atoi s.data.toList = some n) (w : World) :
  Calls Tryz.prog 176 #[.string s] w fun e w' => e = .returned (.tuple #[.int .i64 n,.nilIface]) /\ ∃ t,w' = Lib.bytesWorld w 5 t:=Any.strconv_Atoi Tryz.lays172 s n hl h w
open Go.Lib in
open Go.Lib in
open Go.Lib in
open Go.RowKit Go.Sort Go.Lib in
open Go.RowKit Go.Sort Go.Lib in
open Go.RowKit Go.Sort Go.Lib in
def Tryz.laysM171_ren : Go.Shelf.Ren:=⟨fun | 171 => 136 | 243 => 208 | 246 => 281 | 283 => 328 | 284 => 329 | 285 => 330 | 286 => 331 | 129 => 230 | 317 => 347 | 318 => 348 | 319 => 349 | 320 => 269 | 337 => 321 | 338 => 322 | n => n,fun | 3 => 3 | 9 => 9 | 2 => 2 | 4 => 4 | 171 => 309 | 0 => 0 | 53 => 245 | 37 => 76 | 5 => 5 | 173 => 311 | 212 => 330 | 51 => 243 | 20 => 20 | 213 => 331 | 46 => 185 | 232 => 325 | 233 => 326 | n => n,fun | 17 => 6 | 18 => 4 | 19 => 5 | n => n⟩
theorem Tryz.laysM171 : Go.Proofs.LaysM.n171 Tryz.prog Tryz.laysM171_ren:={
 mixed:=by kernel_rfl
 f129:=Tryz.func230.trans (congrArg some (by kernel_rfl))
 f171:=Tryz.func136.trans (congrArg some (by kernel_rfl))
 f243:=Tryz.func208.trans (congrArg some (by kernel_rfl))
 f246:=Tryz.func281.trans (congrArg some (by kernel_rfl))
 f283:=Tryz.func328.trans (congrArg some (by kernel_rfl))
 f284:=Tryz.func329.trans (congrArg some (by kernel_rfl))
 f285:=Tryz.func330.trans (congrArg some (by kernel_rfl))
 f286:=Tryz.func331.trans (congrArg some (by kernel_rfl))
 f317:=Tryz.func347.trans (congrArg some (by kernel_rfl))
 f318:=Tryz.func348.trans (congrArg some (by kernel_rfl))
 f319:=Tryz.func349.trans (congrArg some (by kernel_rfl))
 f320:=Tryz.func269.trans (congrArg some (by kernel_rfl))
 f337:=Tryz.func321.trans (congrArg some (by kernel_rfl))
 f338:=Tryz.func322.trans (congrArg some (by kernel_rfl))
 t0:=Tryz.underlying0
 a0:=Tryz.isAgg0
 z0:=Tryz.sizeOf0
 v0:=Tryz.zeroValue0
 t2:=Tryz.underlying2
 a2:=Tryz.isAgg2
 z2:=Tryz.sizeOf2
 v2:=Tryz.zeroValue2
 t3:=Tryz.underlying3
 a3:=Tryz.isAgg3
 z3:=Tryz.sizeOf3
 v3:=Tryz.zeroValue3
 t4:=Tryz.underlying4
 a4:=Tryz.isAgg4
 z4:=Tryz.sizeOf4
 v4:=Tryz.zeroValue4
 t5:=Tryz.underlying5
 a5:=Tryz.isAgg5
 z5:=Tryz.sizeOf5
 v5:=Tryz.zeroValue5
 t9:=Tryz.underlying9
 a9:=Tryz.isAgg9
 z9:=Tryz.sizeOf9
 v9:=Tryz.zeroValue9
 t20:=Tryz.underlying20
 a20:=Tryz.isAgg20
 z20:=Tryz.sizeOf20
 v20:=Tryz.zeroValue20
 t37:=Tryz.underlying76
 a37:=Tryz.isAgg76
 z37:=Tryz.sizeOf76
 v37:=Tryz.zeroValue76
 t46:=Tryz.underlying185
 a46:=Tryz.isAgg185
 z46:=Tryz.sizeOf185
 v46:=Tryz.zeroValue185
 t51:=Tryz.underlying243
 a51:=Tryz.isAgg243
 z51:=Tryz.sizeOf243
 v51:=Tryz.zeroValue243
 t53:=Tryz.underlying245
 a53:=Tryz.isAgg245
 z53:=Tryz.sizeOf245
 v53:=Tryz.zeroValue245
 t171:=Tryz.underlying309
 a171:=Tryz.isAgg309
 z171:=Tryz.sizeOf309
 v171:=Tryz.zeroValue309
 t173:=Tryz.underlying311
 a173:=Tryz.isAgg311
 z173:=Tryz.sizeOf311
 v173:=Tryz.zeroValue311
 t212:=Tryz.underlying330
 a212:=Tryz.isAgg330
 z212:=Tryz.sizeOf330
 v212:=Tryz.zeroValue330
 t213:=Tryz.underlying331
 a213:=Tryz.isAgg331
 z213:=Tryz.sizeOf331
 t232:=Tryz.underlying325
 a232:=Tryz.isAgg325
 z232:=Tryz.sizeOf325
 v232:=Tryz.zeroValue325
 t233:=Tryz.underlying326
 a233:=Tryz.isAgg326
 z233:=Tryz.sizeOf326
 v233:=Tryz.zeroValue326
 g17:=by kernel_rfl
 g18:=by kernel_rfl
 g19:=by kernel_rfl
 i0:=by kernel_rfl
 i2:=by kernel_rfl
 i3:=by kernel_rfl
 i4:=by kernel_rfl
 i5:=by kernel_rfl
 i9:=by kernel_rfl
 i20:=by kernel_rfl
 i37:=by kernel_rfl
 i46:=by kernel_rfl
 i51:=by kernel_rfl
 i53:=by kernel_rfl
 i171:=by kernel_rfl
 i173:=by kernel_rfl
 i212:=by kernel_rfl
 i232:=by kernel_rfl
 i233:=by kernel_rfl
 m17:=by kernel_rfl
 m18:=by kernel_rfl
 m19:=by kernel_rfl }
def Tryz.lays171_ren : Go.Shelf.Ren:=⟨fun | 171 => 136 | 243 => 208 | 246 => 281 | 283 => 328 | 284 => 329 | 285 => 330 | 286 => 331 | 129 => 230 | 317 => 347 | 318 => 348 | 319 => 349 | 320 => 269 | 337 => 321 | 338 => 322 | n => n,fun | 3 => 3 | 9 => 9 | 2 => 2 | 4 => 4 | 171 => 309 | 0 => 0 | 53 => 245 | 37 => 76 | 5 => 5 | 173 => 311 | 212 => 330 | 51 => 243 | 20 => 20 | 213 => 331 | 46 => 185 | 232 => 325 | 233 => 326 | n => n,fun | 17 => 6 | 18 => 4 | 19 => 5 | n => n⟩
theorem Tryz.lays171 : Go.Proofs.Lays.n171 Tryz.prog Tryz.lays171_ren:={
 mixed:=by kernel_rfl
 f129:=Tryz.func230.trans (congrArg some (by kernel_rfl))
 f171:=Tryz.func136.trans (congrArg some (by kernel_rfl))
 f243:=Tryz.func208.trans (congrArg some (by kernel_rfl))
 f246:=Tryz.func281.trans (congrArg some (by kernel_rfl))
 f283:=Tryz.func328.trans (congrArg some (by kernel_rfl))
 f284:=Tryz.func329.trans (congrArg some (by kernel_rfl))
 f285:=Tryz.func330.trans (congrArg some (by kernel_rfl))
 f286:=Tryz.func331.trans (congrArg some (by kernel_rfl))
 f317:=Tryz.func347.trans (congrArg some (by kernel_rfl))
 f318:=Tryz.func348.trans (congrArg some (by kernel_rfl))
 f319:=Tryz.func349.trans (congrArg some (by kernel_rfl))
 f320:=Tryz.func269.trans (congrArg some (by kernel_rfl))
 f337:=Tryz.func321.trans (congrArg some (by kernel_rfl))
 f338:=Tryz.func322.trans (congrArg some (by kernel_rfl))
 t0:=Tryz.underlying0
 a0:=Tryz.isAgg0
 z0:=Tryz.sizeOf0
 v0:=Tryz.zeroValue0
 t2:=Tryz.underlying2
 a2:=Tryz.isAgg2
 z2:=Tryz.sizeOf2
 v2:=Tryz.zeroValue2
 t3:=Tryz.underlying3
 a3:=Tryz.isAgg3
 z3:=Tryz.sizeOf3
 v3:=Tryz.zeroValue3
 t4:=Tryz.underlying4
 a4:=Tryz.isAgg4
 z4:=Tryz.sizeOf4
 v4:=Tryz.zeroValue4
 t5:=Tryz.underlying5
 a5:=Tryz.isAgg5
 z5:=Tryz.sizeOf5
 v5:=Tryz.zeroValue5
 t9:=Tryz.underlying9
 a9:=Tryz.isAgg9
 z9:=Tryz.sizeOf9
 v9:=Tryz.zeroValue9
 t20:=Tryz.underlying20
 a20:=Tryz.isAgg20
 z20:=Tryz.sizeOf20
 v20:=Tryz.zeroValue20
 t37:=Tryz.underlying76
 a37:=Tryz.isAgg76
 z37:=Tryz.sizeOf76
 v37:=Tryz.zeroValue76
 t46:=Tryz.underlying185
 a46:=Tryz.isAgg185
 z46:=Tryz.sizeOf185
 v46:=Tryz.zeroValue185
 t51:=Tryz.underlying243
 a51:=Tryz.isAgg243
 z51:=Tryz.sizeOf243
 v51:=Tryz.zeroValue243
 t53:=Tryz.underlying245
 a53:=Tryz.isAgg245
 z53:=Tryz.sizeOf245
 v53:=Tryz.zeroValue245
 t171:=Tryz.underlying309
 a171:=Tryz.isAgg309
 z171:=Tryz.sizeOf309
 v171:=Tryz.zeroValue309
 t173:=Tryz.underlying311
 a173:=Tryz.isAgg311
 z173:=Tryz.sizeOf311
 v173:=Tryz.zeroValue311
 t212:=Tryz.underlying330
 a212:=Tryz.isAgg330
 z212:=Tryz.sizeOf330
 v212:=Tryz.zeroValue330
 t213:=Tryz.underlying331
 a213:=Tryz.isAgg331
 z213:=Tryz.sizeOf331
 t232:=Tryz.underlying325
 a232:=Tryz.isAgg325
 z232:=Tryz.sizeOf325
 v232:=Tryz.zeroValue325
 t233:=Tryz.underlying326
 a233:=Tryz.isAgg326
 z233:=Tryz.sizeOf326
 v233:=Tryz.zeroValue326
 g17:=by kernel_rfl
 g18:=by kernel_rfl
 g19:=by kernel_rfl }
open Go.RowKit Go.Sort Go.Lib in
theorem Tryz.strconv_Itoa_small (i : Nat) (hi : i < 100) (w : World) :
  Calls Tryz.prog 136 #[.int .i64 i] w fun e w' => e = .returned (.string ⟨(Lib.decDigits i).toArray⟩) /\ w' = w:=Any.strconv_Itoa_small Tryz.lays171 i hi w
open Go.RowKit Go.Lib in
open Go.RowKit Go.Lib in
open Go.RowKit Go.Lib in
open Go.RowKit Go.Lib in
def Tryz.lays219_ren : Go.Shelf.Ren:=⟨fun | 219 => 302 | 217 => 338 | 225 => 306 | 224 => 305 | 267 => 339 | 266 => 351 | 314 => 352 | n => n,fun | 9 => 9 | 3 => 3 | 4 => 4 | 5 => 5 | 46 => 185 | 146 => 337 | 51 => 243 | n => n,fun | 1 => 0 | n => n⟩
theorem Tryz.lays219 : Go.Proofs.Lays.n219 Tryz.prog Tryz.lays219_ren:={
 mixed:=by kernel_rfl
 f217:=Tryz.func338.trans (congrArg some (by kernel_rfl))
 f219:=Tryz.func302.trans (congrArg some (by kernel_rfl))
 f224:=Tryz.func305.trans (congrArg some (by kernel_rfl))
 f225:=Tryz.func306.trans (congrArg some (by kernel_rfl))
 f266:=Tryz.func351.trans (congrArg some (by kernel_rfl))
 f267:=Tryz.func339.trans (congrArg some (by kernel_rfl))
 f314:=Tryz.func352.trans (congrArg some (by kernel_rfl))
 t3:=Tryz.underlying3
 a3:=Tryz.isAgg3
 z3:=Tryz.sizeOf3
 v3:=Tryz.zeroValue3
 t4:=Tryz.underlying4
 a4:=Tryz.isAgg4
 z4:=Tryz.sizeOf4
 v4:=Tryz.zeroValue4
 t5:=Tryz.underlying5
 a5:=Tryz.isAgg5
 z5:=Tryz.sizeOf5
 v5:=Tryz.zeroValue5
 t9:=Tryz.underlying9
 a9:=Tryz.isAgg9
 z9:=Tryz.sizeOf9
 v9:=Tryz.zeroValue9
 t46:=Tryz.underlying185
 a46:=Tryz.isAgg185
 z46:=Tryz.sizeOf185
 v46:=Tryz.zeroValue185
 t51:=Tryz.underlying243
 a51:=Tryz.isAgg243
 z51:=Tryz.sizeOf243
 v51:=Tryz.zeroValue243
 t146:=Tryz.underlying337
 a146:=Tryz.isAgg337
 z146:=Tryz.sizeOf337
 v146:=Tryz.zeroValue337
 g1:=by kernel_rfl }
open Go.RowKit Go.Lib in
theorem Tryz.stringslite_Index_one (s : ByteArray) (c : UInt8) (w : World) :
  Calls Tryz.prog 302 #[.string s,.string ⟨#[c]⟩] w fun e w' => e = .returned (.int .i64 (Lib.indexByte s.data.toList c)) /\ w' = w:=Any.stringslite_Index_one Tryz.lays219 s c w
open Go.RowKit Go.Lib in
open Go.RowKit Go.Lib in
open Go.RowKit Go.Lib in
open Go.RowKit Go.Lib in
open Go.RowKit Go.Lib in
open Go.RowKit Go.Lib in
open Go.RowKit Go.Lib in
open Go.RowKit Go.Lib in
open Go.RowKit Go.Lib in
open Go.RowKit Go.Lib in
open Go.RowKit Go.Lib in
open Go.RowKit Go.Lib in
open Go.RowKit Go.Lib in
def Tryz.lays99_ren : Go.Shelf.Ren:=⟨fun | 99 => 104 | 206 => 175 | n => n,fun | 9 => 9 | 4 => 4 | 3 => 3 | n => n,fun | n => n⟩
theorem Tryz.lays99 : Go.Proofs.Lays.n99 Tryz.prog Tryz.lays99_ren:={
 mixed:=by kernel_rfl
 f99:=Tryz.func104.trans (congrArg some (by kernel_rfl))
 f206:=Tryz.func175.trans (congrArg some (by kernel_rfl))
 t3:=Tryz.underlying3
 a3:=Tryz.isAgg3
 z3:=Tryz.sizeOf3
 v3:=Tryz.zeroValue3
 t4:=Tryz.underlying4
 a4:=Tryz.isAgg4
 z4:=Tryz.sizeOf4
 v4:=Tryz.zeroValue4
 t9:=Tryz.underlying9
 a9:=Tryz.isAgg9
 z9:=Tryz.sizeOf9
 v9:=Tryz.zeroValue9 }
open Go.RowKit Go.Lib in
theorem Tryz.strings_HasPrefix (s p : ByteArray) (w : World) :
  Calls Tryz.prog 104 #[.string s,.string p] w fun e w' => e = .returned (.bool (Lib.hasPrefix s.data.toList p.data.toList)) /\ w' = w:=Any.strings_HasPrefix Tryz.lays99 s p w
open Go.RowKit Go.Lib in
open Go.RowKit Go.Lib in
open Go.RowKit Go.Lib in
open Go.RowKit Go.Lib in
open Go.RowKit Go.Lib in
def Tryz.lays146_ren : Go.Shelf.Ren:=⟨fun | 146 => 91 | 221 => 162 | 268 => 241 | 138 => 242 | 143 => 243 | 195 => 299 | 197 => 300 | 218 => 301 | 219 => 302 | 260 => 337 | 217 => 338 | 225 => 306 | 224 => 305 | 267 => 339 | 266 => 351 | 314 => 352 | n => n,fun | 9 => 9 | 31 => 60 | 3 => 3 | 4 => 4 | 0 => 0 | 105 => 294 | 21 => 21 | 5 => 5 | 46 => 185 | 119 => 333 | 139 => 336 | 138 => 335 | 146 => 337 | 51 => 243 | n => n,fun | 1 => 0 | 3 => 7 | 4 => 8 | n => n⟩
theorem Tryz.lays146 : Go.Proofs.Lays.n146 Tryz.prog Tryz.lays146_ren:={
 mixed:=by kernel_rfl
 f138:=Tryz.func242.trans (congrArg some (by kernel_rfl))
 f143:=Tryz.func243.trans (congrArg some (by kernel_rfl))
 f146:=Tryz.func91.trans (congrArg some (by kernel_rfl))
 f195:=Tryz.func299.trans (congrArg some (by kernel_rfl))
 f197:=Tryz.func300.trans (congrArg some (by kernel_rfl))
 f217:=Tryz.func338.trans (congrArg some (by kernel_rfl))
 f218:=Tryz.func301.trans (congrArg some (by kernel_rfl))
 f219:=Tryz.func302.trans (congrArg some (by kernel_rfl))
 f221:=Tryz.func162.trans (congrArg some (by kernel_rfl))
 f224:=Tryz.func305.trans (congrArg some (by kernel_rfl))
 f225:=Tryz.func306.trans (congrArg some (by kernel_rfl))
 f260:=Tryz.func337.trans (congrArg some (by kernel_rfl))
 f266:=Tryz.func351.trans (congrArg some (by kernel_rfl))
 f267:=Tryz.func339.trans (congrArg some (by kernel_rfl))
 f268:=Tryz.func241.trans (congrArg some (by kernel_rfl))
 f314:=Tryz.func352.trans (congrArg some (by kernel_rfl))
 t0:=Tryz.underlying0
 a0:=Tryz.isAgg0
 z0:=Tryz.sizeOf0
 v0:=Tryz.zeroValue0
 t3:=Tryz.underlying3
 a3:=Tryz.isAgg3
 z3:=Tryz.sizeOf3
 v3:=Tryz.zeroValue3
 t4:=Tryz.underlying4
 a4:=Tryz.isAgg4
 z4:=Tryz.sizeOf4
 v4:=Tryz.zeroValue4
 t5:=Tryz.underlying5
 a5:=Tryz.isAgg5
 z5:=Tryz.sizeOf5
 v5:=Tryz.zeroValue5
 t9:=Tryz.underlying9
 a9:=Tryz.isAgg9
 z9:=Tryz.sizeOf9
 v9:=Tryz.zeroValue9
 t21:=Tryz.underlying21
 a21:=Tryz.isAgg21
 z21:=Tryz.sizeOf21
 v21:=Tryz.zeroValue21
 t31:=Tryz.underlying60
 a31:=Tryz.isAgg60
 z31:=Tryz.sizeOf60
 v31:=Tryz.zeroValue60
 t46:=Tryz.underlying185
 a46:=Tryz.isAgg185
 z46:=Tryz.sizeOf185
 v46:=Tryz.zeroValue185
 t51:=Tryz.underlying243
 a51:=Tryz.isAgg243
 z51:=Tryz.sizeOf243
 v51:=Tryz.zeroValue243
 t105:=Tryz.underlying294
 a105:=Tryz.isAgg294
 z105:=Tryz.sizeOf294
 v105:=Tryz.zeroValue294
 t119:=Tryz.underlying333
 a119:=Tryz.isAgg333
 z119:=Tryz.sizeOf333
 t138:=Tryz.underlying335
 a138:=Tryz.isAgg335
 z138:=Tryz.sizeOf335
 v138:=Tryz.zeroValue335
 t139:=Tryz.underlying336
 a139:=Tryz.isAgg336
 z139:=Tryz.sizeOf336
 v139:=Tryz.zeroValue336
 t146:=Tryz.underlying337
 a146:=Tryz.isAgg337
 z146:=Tryz.sizeOf337
 v146:=Tryz.zeroValue337
 g1:=by kernel_rfl
 g3:=by kernel_rfl
 g4:=by kernel_rfl }
open Go.RowKit Go.Lib in
theorem Tryz.strings_Split (s sep : ByteArray) (m : Int) (w : World) (hs : s.size < 4294967281) (hm : w.cell? ⟨0,0,none⟩ = some (.int .i64 m)) (h1 : 1 <= sep.size) :
  Calls Tryz.prog 91 #[.string s,.string sep] w fun e w' =>
   e = .returned (.slice (some ⟨w.heap.size,0,none⟩) (Lib.countB s sep + 1) (Lib.countB s sep + 1)) /\ w' = w.alloc (.cells ((Lib.splitB sep 0 (Lib.countB s sep) s).map Value.string).toArray 9):=Any.strings_Split Tryz.lays146 (by kernel_rfl) s sep m w hs hm h1
open Go.RowKit Go.Lib in
def Tryz.lays152_ren : Go.Shelf.Ren:=⟨fun | 152 => 244 | 137 => 303 | 119 => 304 | 224 => 305 | 225 => 306 | 217 => 338 | 266 => 351 | n => n,fun | 9 => 9 | 21 => 21 | 3 => 3 | 4 => 4 | 5 => 5 | 0 => 0 | 46 => 185 | n => n,fun | n => n⟩
theorem Tryz.lays152 : Go.Proofs.Lays.n152 Tryz.prog Tryz.lays152_ren:={
 mixed:=by kernel_rfl
 f119:=Tryz.func304.trans (congrArg some (by kernel_rfl))
 f137:=Tryz.func303.trans (congrArg some (by kernel_rfl))
 f152:=Tryz.func244.trans (congrArg some (by kernel_rfl))
 f217:=Tryz.func338.trans (congrArg some (by kernel_rfl))
 f224:=Tryz.func305.trans (congrArg some (by kernel_rfl))
 f225:=Tryz.func306.trans (congrArg some (by kernel_rfl))
 f266:=Tryz.func351.trans (congrArg some (by kernel_rfl))
 t0:=Tryz.underlying0
 a0:=Tryz.isAgg0
 z0:=Tryz.sizeOf0
 v0:=Tryz.zeroValue0
 t3:=Tryz.underlying3
 a3:=Tryz.isAgg3
 z3:=Tryz.sizeOf3
 v3:=Tryz.zeroValue3
 t4:=Tryz.underlying4
 a4:=Tryz.isAgg4
 z4:=Tryz.sizeOf4
 v4:=Tryz.zeroValue4
 t5:=Tryz.underlying5
 a5:=Tryz.isAgg5
 z5:=Tryz.sizeOf5
 v5:=Tryz.zeroValue5
 t9:=Tryz.underlying9
 a9:=Tryz.isAgg9
 z9:=Tryz.sizeOf9
 v9:=Tryz.zeroValue9
 t21:=Tryz.underlying21
 a21:=Tryz.isAgg21
 z21:=Tryz.sizeOf21
 v21:=Tryz.zeroValue21
 t46:=Tryz.underlying185
 a46:=Tryz.isAgg185
 z46:=Tryz.sizeOf185
 v46:=Tryz.zeroValue185 }
open Go.RowKit Go.Lib in
theorem Tryz.strings_IndexRune_ascii (s : ByteArray) (r : Int) (w : World) (h0 : 0 <= r) (h1 : r < 128) :
  Calls Tryz.prog 244 #[.string s,.int .i32 r] w fun e w' => e = .returned (.int .i64 (Lib.indexByte s.data.toList r.toNat.toUInt8)) /\ w' = w:=Any.strings_IndexRune_ascii Tryz.lays152 s r w h0 h1
def Tryz.lays226_ren : Go.Shelf.Ren:=⟨fun | 226 => 245 | n => n,fun | 3 => 3 | 4 => 4 | n => n,fun | n => n⟩
theorem Tryz.lays226 : Go.Proofs.Lays.n226 Tryz.prog Tryz.lays226_ren:={
 mixed:=by kernel_rfl
 f226:=Tryz.func245.trans (congrArg some (by kernel_rfl))
 t3:=Tryz.underlying3
 a3:=Tryz.isAgg3
 z3:=Tryz.sizeOf3
 v3:=Tryz.zeroValue3
 t4:=Tryz.underlying4
 a4:=Tryz.isAgg4
 z4:=Tryz.sizeOf4
 v4:=Tryz.zeroValue4 }
open Go.RowKit Go.Lib in
theorem Tryz.strings_shouldUseASCIISet (n : Int) (w : World) :
  Calls Tryz.prog 245 #[.int .i64 n] w fun e w' => e = .returned (.bool (decide (8 < n))) /\ w' = w:=Any.strings_shouldUseASCIISet Tryz.lays226 n w
def Tryz.lays153_ren : Go.Shelf.Ren:=⟨fun | 153 => 163 | 152 => 244 | 226 => 245 | 227 => 246 | 228 => 247 | 137 => 303 | 119 => 304 | 224 => 305 | 225 => 306 | 217 => 338 | 266 => 351 | n => n,fun | 9 => 9 | 3 => 3 | 4 => 4 | 5 => 5 | 21 => 21 | 117 => 259 | 116 => 258 | 0 => 0 | 46 => 185 | 124 => 298 | n => n,fun | n => n⟩
theorem Tryz.lays153 : Go.Proofs.Lays.n153 Tryz.prog Tryz.lays153_ren:={
 mixed:=by kernel_rfl
 f119:=Tryz.func304.trans (congrArg some (by kernel_rfl))
 f137:=Tryz.func303.trans (congrArg some (by kernel_rfl))
 f152:=Tryz.func244.trans (congrArg some (by kernel_rfl))
 f153:=Tryz.func163.trans (congrArg some (by kernel_rfl))
 f217:=Tryz.func338.trans (congrArg some (by kernel_rfl))
 f224:=Tryz.func305.trans (congrArg some (by kernel_rfl))
 f225:=Tryz.func306.trans (congrArg some (by kernel_rfl))
 f226:=Tryz.func245.trans (congrArg some (by kernel_rfl))
 f227:=Tryz.func246.trans (congrArg some (by kernel_rfl))
 f228:=Tryz.func247.trans (congrArg some (by kernel_rfl))
 f266:=Tryz.func351.trans (congrArg some (by kernel_rfl))
 t0:=Tryz.underlying0
 a0:=Tryz.isAgg0
 z0:=Tryz.sizeOf0
 v0:=Tryz.zeroValue0
 t3:=Tryz.underlying3
 a3:=Tryz.isAgg3
 z3:=Tryz.sizeOf3
 v3:=Tryz.zeroValue3
 t4:=Tryz.underlying4
 a4:=Tryz.isAgg4
 z4:=Tryz.sizeOf4
 v4:=Tryz.zeroValue4
 t5:=Tryz.underlying5
 a5:=Tryz.isAgg5
 z5:=Tryz.sizeOf5
 v5:=Tryz.zeroValue5
 t9:=Tryz.underlying9
 a9:=Tryz.isAgg9
 z9:=Tryz.sizeOf9
 v9:=Tryz.zeroValue9
 t21:=Tryz.underlying21
 a21:=Tryz.isAgg21
 z21:=Tryz.sizeOf21
 v21:=Tryz.zeroValue21
 t46:=Tryz.underlying185
 a46:=Tryz.isAgg185
 z46:=Tryz.sizeOf185
 v46:=Tryz.zeroValue185
 t116:=Tryz.underlying258
 a116:=Tryz.isAgg258
 z116:=Tryz.sizeOf258
 t117:=Tryz.underlying259
 a117:=Tryz.isAgg259
 z117:=Tryz.sizeOf259
 v117:=Tryz.zeroValue259
 t124:=Tryz.underlying298
 a124:=Tryz.isAgg298
 z124:=Tryz.sizeOf298
 v124:=Tryz.zeroValue298 }
open Go.RowKit Go.Lib in
open Go.RowKit Go.Lib in
open Go.RowKit Go.Lib in
open Go.RowKit Go.Lib in
open Go.RowKit Go.Lib in
open Go.RowKit Go.Lib in
theorem Tryz.strings_IndexAny_long (hv116 : ∀ w,(zeroValue 258).run Tryz.prog w = .ok (.agg (Array.replicate 256 (.bool false))) w) (s chars : ByteArray) (w : World) (h2 : 2 <= chars.size) (h8 : 8 < s.size) (hs : s.size < 4294967281) (hcs : chars.size < 4294967281) (hascii : ∀ (j : Nat) b,chars.data.toList[j]? = some b -> b.toNat < 128) :
  Calls Tryz.prog 163 #[.string s,.string chars] w fun e w' => e = .returned (.int .i64 (Lib.indexAny s.data.toList chars.data.toList)) /\ w' = ((w.alloc (.cells (Lib.setCells chars.data.toList) 258)).alloc (.cells (Lib.setCells chars.data.toList) 258)):=Any.strings_IndexAny_long Tryz.lays153 hv116 (by kernel_rfl) s chars w h2 h8 hs hcs hascii
open Go.RowKit Go.Lib in
open Go.RowKit Go.Lib in
open Go.RowKit Go.Lib in
open Go.RowKit Go.Lib in
open Go.RowKit Go.Lib in
open Go.RowKit Go.Lib in
open Go.RowKit Go.Lib in
open Go.RowKit Go.Lib in
open Go.RowKit Go.Lib in
open Go.RowKit Go.Lib in
open Go.RowKit Go.Lib in
open Go.RowKit Go.Lib in
open Go.Lib in
open Go.Lib in
def Tryz.lays107_ren : Go.Shelf.Ren:=⟨fun | 107 => 148 | 108 => 222 | n => n,fun | 28 => 27 | 3 => 3 | 4 => 4 | 0 => 0 | n => n,fun | n => n⟩
theorem Tryz.lays107 : Go.Proofs.Lays.n107 Tryz.prog Tryz.lays107_ren:={
 mixed:=by kernel_rfl
 f107:=Tryz.func148.trans (congrArg some (by kernel_rfl))
 f108:=Tryz.func222.trans (congrArg some (by kernel_rfl))
 t0:=Tryz.underlying0
 a0:=Tryz.isAgg0
 z0:=Tryz.sizeOf0
 v0:=Tryz.zeroValue0
 t3:=Tryz.underlying3
 a3:=Tryz.isAgg3
 z3:=Tryz.sizeOf3
 v3:=Tryz.zeroValue3
 t4:=Tryz.underlying4
 a4:=Tryz.isAgg4
 z4:=Tryz.sizeOf4
 v4:=Tryz.zeroValue4
 t28:=Tryz.underlying27
 a28:=Tryz.isAgg27
 z28:=Tryz.sizeOf27
 v28:=Tryz.zeroValue27 }
open Go.Lib in
theorem Tryz.slices_Contains_int (b off n c : Nat) (zs : List Int) (x : Int) (w : World) (hz : n <= zs.length) (hbig : n <= 9223372036854775807) (hc : ∀ j,j < zs.length -> w.cell? ⟨b,off + j,none⟩ = some (.int .i64 (zs.getD j 0))) :
  Calls Tryz.prog 148 #[.slice (some ⟨b,off,none⟩) n c,.int .i64 x] w fun e w' => e = .returned (.bool ((zs.take n).contains x)) /\ w' = w:=Any.slices_Contains_int Tryz.lays107 b off n c zs x w hz hbig hc
open Go.Lib in
theorem Tryz.slices_Contains_int_empty (a : Option Addr) (c : Nat) (x : Int) (w : World) :
  Calls Tryz.prog 148 #[.slice a 0 c,.int .i64 x] w fun e w' => e = .returned (.bool false) /\ w' = w:=Any.slices_Contains_int_empty Tryz.lays107 a c x w
def Tryz.lays111_ren : Go.Shelf.Ren:=⟨fun | 111 => 270 | n => n,fun | 28 => 27 | 3 => 3 | 4 => 4 | 0 => 0 | n => n,fun | n => n⟩
theorem Tryz.lays111 : Go.Proofs.Lays.n111 Tryz.prog Tryz.lays111_ren:={
 mixed:=by kernel_rfl
 f111:=Tryz.func270.trans (congrArg some (by kernel_rfl))
 t0:=Tryz.underlying0
 a0:=Tryz.isAgg0
 z0:=Tryz.sizeOf0
 v0:=Tryz.zeroValue0
 t3:=Tryz.underlying3
 a3:=Tryz.isAgg3
 z3:=Tryz.sizeOf3
 v3:=Tryz.zeroValue3
 t4:=Tryz.underlying4
 a4:=Tryz.isAgg4
 z4:=Tryz.sizeOf4
 v4:=Tryz.zeroValue4
 t28:=Tryz.underlying27
 a28:=Tryz.isAgg27
 z28:=Tryz.sizeOf27
 v28:=Tryz.zeroValue27 }
open Go.RowKit Go.Lib in
theorem Tryz.slices_Equal_int (b1 o1 n c b2 o2 m d : Nat) (xs ys : List Int) (w : World) (hx : n <= xs.length) (hy : m <= ys.length) (hbig : n <= 9223372036854775807) (hbig2 : m <= 9223372036854775807) (hc1 : ∀ j,j < xs.length -> w.cell? ⟨b1,o1 + j,none⟩ = some (.int .i64 (xs.getD j 0))) (hc2 : ∀ j,j < ys.length -> w.cell? ⟨b2,o2 + j,none⟩ = some (.int .i64 (ys.getD j 0))) :
  Calls Tryz.prog 270 #[.slice (some ⟨b1,o1,none⟩) n c,.slice (some ⟨b2,o2,none⟩) m d] w fun e w' => e = .returned (.bool (xs.take n == ys.take m)) /\ ∃ q,w' = w.drewN q:=Any.slices_Equal_int Tryz.lays111 b1 o1 n c b2 o2 m d xs ys w hx hy hbig hbig2 hc1 hc2
open Go.RowKit Go.Lib in
theorem Tryz.slices_Equal_int_empty (a1 a2 : Option Addr) (c m d : Nat) (w : World) (hbig2 : m <= 9223372036854775807) :
  Calls Tryz.prog 270 #[.slice a1 0 c,.slice a2 m d] w fun e w' => e = .returned (.bool (decide (m = 0))) /\ w' = w:=Any.slices_Equal_int_empty Tryz.lays111 a1 a2 c m d w hbig2
def Tryz.laysNm215_ren : Go.Shelf.Ren:=⟨fun | 15 => 146 | n => n,fun | 22 => 27 | 3 => 3 | 4 => 4 | n => n,fun | n => n⟩
theorem Tryz.laysNm215 : Go.Proofs.Lays2.n15 Tryz.prog Tryz.laysNm215_ren:={
 mixed:=by kernel_rfl
 f15:=Tryz.func146.trans (congrArg some (by kernel_rfl))
 t3:=Tryz.underlying3
 a3:=Tryz.isAgg3
 z3:=Tryz.sizeOf3
 v3:=Tryz.zeroValue3
 t4:=Tryz.underlying4
 a4:=Tryz.isAgg4
 z4:=Tryz.sizeOf4
 v4:=Tryz.zeroValue4
 t22:=Tryz.underlying27
 a22:=Tryz.isAgg27
 z22:=Tryz.sizeOf27
 v22:=Tryz.zeroValue27
 i3:=by kernel_rfl }
open Go.RowKit Go.Lib in
theorem Tryz.slices_Clone_int (b off n c : Nat) (zs : List Int) (w : World) (hz : n <= zs.length) (hbig : n * 8 <= 140737488355328) (hc : ∀ j,j < zs.length -> w.cell? ⟨b,off + j,none⟩ = some (.int .i64 (zs.getD j 0))) :
  Calls Tryz.prog 146 #[.slice (some ⟨b,off,none⟩) n c] w fun e w' => ∃ v',e = .returned v' /\ w'.ownsRow w.heap.size 3 1 v' n ((zs.take n).map (Value.int .i64)) /\ v' ≠ .slice none 0 0 /\ Below w.heap.size w w':=Any.slices_Clone_int Tryz.laysNm215 b off n c zs w hz hbig hc
open Go.RowKit Go.Lib in
theorem Tryz.slices_Clone_int_nil (n c : Nat) (w : World) :
  Calls Tryz.prog 146 #[.slice none n c] w fun e w' => e = .returned (.slice none 0 0) /\ w' = w:=Any.slices_Clone_int_nil Tryz.laysNm215 n c w
open Go.RowKit Go.Lib in
theorem Tryz.slices_Clone_int_zero (a : Addr) (c : Nat) (w : World) :
  Calls Tryz.prog 146 #[.slice (some a) 0 c] w fun e w' => ∃ v',e = .returned v' /\ w'.ownsRow w.heap.size 3 1 v' 0 [] /\ v' ≠ .slice none 0 0 /\ Below w.heap.size w w':=Any.slices_Clone_int_zero Tryz.laysNm215 a c w
end Go.Proofs
