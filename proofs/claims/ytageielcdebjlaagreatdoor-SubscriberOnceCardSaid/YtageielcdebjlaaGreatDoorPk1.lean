/- The generators' dice: contracts of Mod, Next, One: an oracle that keeps the dice in memory. Plain facts on series of days: which are valid, and what their days are. No program in sight. Condition: none. DERIVED: THE SHELF's CONTRACTS AT THIS DUMP, IN PLAIN WORDS (tools/lay-plain.mjs out of 'the shelf command.lean', which tools/lay-shelf.mjs wrote): THE SAME DECLARATIONS UNDER THE SAME NAMES: 'import', 'namespace', 'open', 'def', 'theorem' AND NOTHING ELSE: no command of the shelf's: FOR A HAND-IN. Each laying: the table of numbers ('.._ren') and one theorem, a field a fact of the dump's own or the kernel's comparison; each contract: ONE APPLICATION. strings.Builder over this program: contracts of copyCheck, WriteByte, WriteString, String, Len with a frame that keeps all blocks below a bound but the builder's own. Plain facts on texts of a calendar: how a text is escaped and read back, how a line is folded, what a text is unfolded to. No program in sight. Condition: none. feed.Escape: its contract. feed.Unescape: its contract. codes.Valid: its contract. -/
import Derived.Test.YtageielcdebjlaaGreatDoorProg
import Derived.WalkKit
import Derived.Lib.Hide
import Derived.Deep.QuietTactic
import Derived.BigQuiet
import Derived.Lib.Split
import Derived.Shelf.Strings.Builder1
import Derived.Shelf.Strings.Builder2
import Derived.Shelf.Strings.OnBuilder
import Derived.Shelf.Small.Utf8
import Derived.Shelf.Small.Strs
import Derived.Shelf.Small.Wraps
import Derived.Shelf.Strings.BuilderF
import Derived.Shelf.Strings.BuilderK
import Derived.Shelf.Strconv.Atoi
import Derived.Shelf.Strconv.Itoa0
import Derived.Shelf.Strconv.Itoa1
import Derived.Shelf.LaysM
import Derived.Shelf.Strconv.Itoa2
import Derived.Shelf.Strconv.Itoa3
import Derived.Shelf.Strings.Search1
import Derived.Shelf.Strings.Search2
import Derived.Shelf.Strings.Search3
import Derived.Shelf.Strings.Cut
import Derived.Shelf.Strings.Count
import Derived.Shelf.Strings.Shaped
import Derived.Shelf.Strings.Prefix
import Derived.Shelf.Strings.Split
import Derived.Shelf.Strings.SplitShaped
import Derived.Shelf.Strings.Runes
import Derived.Shelf.Strings.IndexAny
import Derived.Shelf.Strings.AsciiSet
import Derived.Shelf.Strings.IndexAnyAll
import Derived.Shelf.Bits.Mul64
import Derived.Shelf.Strings.Repeat
import Derived.Shelf.Unicode.DecodeSlow
import Derived.Shelf.Slices.Turned
import Derived.Shelf.Slices.Equal
import Derived.Ground.Names2Prog
import Derived.Shelf.Slices.Clone
import Derived.Lib.Builder
import Derived.Lib.AppendStr
import Derived.Lib.Walk
import Derived.Laws.Externs
import Derived.Laws.IdiomStrings
import Derived.LoopTactic
import Derived.Test.YtageielcdebjlaaGreatDoorLh
set_option maxHeartbeats 40000000
namespace Go.Proofs.YtageielcdebjlaaGreatDoor
open Go.RowKit
def modI (n m : Int) : Int:=if m < 1 then 0 else n % m
theorem tmod_neg_lt (n m : Int) (hm : 1 <= m) : -m < n.tmod m /\ n.tmod m < m:=by
 have h1:=Int.lt_tmod_of_pos n (show 0 < m by omega);have h2:=Int.tmod_lt_of_pos n (show 0 < m by omega);exact ⟨h1,h2⟩
theorem modI_of_tmod (n m : Int) (hm : 1 <= m) : modI n m = if n.tmod m < 0 then n.tmod m + m else n.tmod m:=by
 unfold modI;rw [if_neg (by omega)];have h:=tmod_neg_lt n m hm;have e : n % m = (n.tmod m) % m:=by
  have:=Int.tmod_add_mul_tdiv n m;conv => lhs;rw [<- this]
  rw [Int.add_mul_emod_self_left]
 rw [e];split
 ·rw [<- Int.add_emod_right];exact Int.emod_eq_of_lt (by omega) (by omega)
 ·exact Int.emod_eq_of_lt (by omega) (by omega)
theorem ret_int {k : IntKind} {a b : Int} (h : a = b) : Ending.returned (.int k a) = .returned (.int k b):=by rw [h]
theorem addr_add_block (a : Addr) (i : Nat) : (a.add i).block = a.block:=by unfold Addr.add;split <;> rfl
theorem mod_any (n m : Int) (w : World) (hm : m <= 9223372036854775807) :
  Calls Tryz.prog 31 #[.int .i64 n,.int .i64 m] w fun e w' => e = .returned (.int .i64 (modI n m)) /\ w' = w:=by
 by_cases h : m < 1
 ·go_enter Tryz.func31,Tryz.ntmps31;go_wp2;go_ret;exact ⟨by simp [modI,h],rfl⟩
 ·have hb:=tmod_neg_lt n m (by omega);have H:=Lh (modI_of_tmod n m (by omega));by_cases h2 : n.tmod m < 0
  ·go_enter Tryz.func31,Tryz.ntmps31;go_wp2;go_ret;exact ⟨ret_int (by rw [H.out,if_pos h2]),rfl⟩
  ·go_enter Tryz.func31,Tryz.ntmps31;go_wp2;go_ret;exact ⟨ret_int (by rw [H.out,if_neg (by omega)]),rfl⟩
theorem modI_lo (n m : Int) : 0 <= modI n m:=by
 unfold modI;split
 ·omega
 ·exact Int.emod_nonneg _ (by omega)
theorem modI_hi (n m : Int) (h : 1 <= m) : modI n m < m:=by
 unfold modI;rw [if_neg (by omega)];exact Int.emod_lt_of_pos _ (by omega)
theorem modI_le (n m k : Int) (h : m <= k) (hk : 0 <= k) : modI n m <= k:=by
 by_cases h1 : 1 <= m
 ·have:=modI_hi n m h1;omega
 ·unfold modI;rw [if_pos (by omega)];exact hk
structure DiceAt (b : Nat) (w : World) (ao : Option Addr) (len cap k : Nat) : Prop where
 heap : w.heap[b]? = some (.cells #[.slice ao len cap,.int .i64 k] 124 (0,0))
 used : k <= len
 few : len <= 400
 cell : ∀ i,i < len -> ∃ a n,ao = some a /\ a.block < b /\ w.cell? (a.add i) = some (.int .i64 n) /\ -9223372036854775808 <= n /\ n <= 9223372036854775807
def Dice (b : Nat) (w : World) : Prop:=∃ ao len cap k,DiceAt b w ao len cap k
theorem Dice.lt {b : Nat} {w : World} (h : Dice b w) : b < w.heap.size:=by
 obtain ⟨ao,len,cap,k,h⟩:=h;exact (Array.getElem?_eq_some_iff.1 h.heap).1
theorem Dice.kept {b : Nat} {w w' : World} {B : Nat} (h : Dice b w) (hb : b < B) (hw : Below B w w') : Dice b w':=by
 obtain ⟨ao,len,cap,k,h⟩:=h;refine ⟨ao,len,cap,k,⟨(hw.block b hb).trans h.heap,h.used,h.few,fun i hi => ?_⟩⟩;obtain ⟨a,n,ha,hlt,hc,hn⟩:=h.cell i hi;exact ⟨a,n,ha,hlt,(hw.cell (p:=a.add i) (by rw [addr_add_block];omega)).trans hc,hn⟩
def Only (b : Nat) (w w' : World) : Prop:=w'.os = w.os /\ w'.tape = w.tape /\ w'.output = w.output /\ w'.heap.size = w.heap.size /\ ∀ k,k ≠ b -> w'.heap[k]? = w.heap[k]?
theorem next_any (b : Nat) (n : Int) (w : World) (hd : Dice b w) (hn : -9223372036854775808 <= n) (hn2 : n <= 9223372036854775807) :
  Calls Tryz.prog 21 #[.pointer (some ⟨b,0,none⟩),.int .i64 n] w fun e w' => ∃ v : Int,e = .returned (.int .i64 v) /\ 0 <= v /\ (1 <= n -> v < n) /\ v <= 9223372036854775807 /\ Dice b w' /\ Only b w w':=by
 obtain ⟨ao,len,cap,k,h⟩:=hd;have c0 : w.cell? ⟨b,0,none⟩ = some (.slice ao len cap):=by simp [World.cell?,h.heap]
 have c1 : w.cell? ⟨b,1,none⟩ = some (.int .i64 (k : Int)):=by simp [World.cell?,h.heap]
 have f1 : w.frozen? ⟨b,1,none⟩ = false:=by simp [World.frozen?,h.heap]
 have hu:=h.used;have hf:=h.few;by_cases hk : len <= k
 ·go_enter Tryz.func21,Tryz.ntmps21;go_wp2_with fail;go_quiet (fail);go_wp2_with fail;go_ret;exact ⟨0,rfl,by omega,fun h => by omega,by omega,⟨ao,len,cap,k,⟨by simpa using h.heap,h.used,h.few,h.cell⟩⟩,⟨rfl,rfl,rfl,rfl,fun _ _ => rfl⟩⟩
 ·obtain ⟨a,x,rfl,hlt,hc,hx⟩:=h.cell k (by omega);have hb0 : ¬ a.block = b:=by omega
  have hne : ∀ i,(⟨b,1,none⟩ : Addr) ≠ a.add i:=fun i e => hb0 (by rw [<- addr_add_block a i,<- e])
  have hc' : (w.setCell ⟨b,1,none⟩ (.int .i64 (k + 1))).cell? (a.add k) = some (.int .i64 x):=by
   rw [World.cell?_setCell_other _ _ _ _ (hne k)];exact hc
  go_enter Tryz.func21,Tryz.ntmps21;go_wp2_with fail;go_quiet (fail)
  go_wp2_with fail;go_quiet ((go_at_call 31;exact Calls.quiet_of_same (mod_any _ _ _ (by omega))))
  go_wp2_with fail;go_ret;refine ⟨modI x n,rfl,modI_lo _ _,modI_hi _ _,?_,?_,?_⟩
  ·exact modI_le x n _ (by omega) (by omega)
  ·refine ⟨some a,len,cap,k + 1,⟨?_,by omega,hf,?_⟩⟩
   ·simp [World.setCell,Array.getElem?_modify,h.heap]
   ·intro i hi;obtain ⟨a',n',e,h1,h2,h3⟩:=h.cell i hi;cases e;refine ⟨a,n',rfl,h1,?_,h3⟩;simp only [World.cell?_drewN];rw [World.cell?_setCell_other _ _ _ _ (hne i)];exact h2
  ·refine ⟨rfl,rfl,rfl,by simp [World.setCell],fun j hj => ?_⟩;simp [World.setCell,Array.getElem?_modify,Ne.symm hj]
theorem one_any (b : Nat) (n : Int) (w : World) (hd : Dice b w) (hn : -9223372036854775807 <= n) (hn2 : n <= 9223372036854775807) :
  Calls Tryz.prog 22 #[.pointer (some ⟨b,0,none⟩),.int .i64 n] w fun e w' => ∃ v : Bool,e = .returned (.bool v) /\ Dice b w' /\ Only b w w':=by
 go_enter Tryz.func22,Tryz.ntmps22;go_wp2_with fail;refine (next_any b n _ hd (by omega) hn2).mono ?_;rintro e w1 ⟨v,rfl,h0,h1,h2,h3,h4⟩;go_wp2_with fail;go_ret;exact ⟨_,rfl,h3,h4⟩
#print axioms one_any
end Go.Proofs.YtageielcdebjlaaGreatDoor
namespace Tt
structure Ser where
 first : Int
 last : Int
 every : Int
 wd : Int
 ex : List Int
 xt : List Int
 deriving DecidableEq
def isD (n : Int) : Bool:=decide (0 <= n) && decide (n <= 36524)
def wk (d : Int) : Int:=(d + 5) % 7
theorem wk_bd (d : Int) : 0 <= wk d /\ wk d <= 6:=by unfold wk;omega
theorem isD_iff (n : Int) : isD n = true ↔ 0 <= n /\ n <= 36524:=by unfold isD;simp
def cnt (first every d : Int) : Bool:=decide (((d - wk d) - (first - wk first)) / 7 % every = 0)
def bit (m k : Int) : Bool:=decide (m / 2 ^ k.toNat % 2 = 1)
theorem monday_le (a b : Int) (h : a <= b) : a - wk a <= b - wk b:=by unfold wk;omega
def regB (s : Ser) (d : Int) : Bool:=decide (s.first <= d) && decide (d <= s.last) && bit s.wd (wk d) && cnt s.first s.every d
def late : Option Int -> Int -> Bool
 | none,_ => false
 | some q,d => decide (d <= q)
def listV (bad : Int) (ok : Int -> Bool) : Option Int -> List Int -> Int
 | _,[] => 0
 | p,d :: r => if late p d = true then 63 else if ok d = true then listV bad ok (some d) r else bad
def extB (s : Ser) (d : Int) : Bool:=decide (s.first <= d) && decide (d <= s.last) && !regB s d
def headV (s : Ser) : Int :=
 if (isD s.first && isD s.last) = false then 13
 else if s.last < s.first ∨ s.first + 140 < s.last then 3
 else if s.every < 1 ∨ 4 < s.every ∨ s.wd < 0 ∨ 127 < s.wd then 3
 else if 140 < (s.ex.length : Int) + s.xt.length then 2
 else 0
def serV (s : Ser) : Int :=
 if headV s ≠ 0 then headV s
 else if listV 12 (regB s) none s.ex ≠ 0 then listV 12 (regB s) none s.ex
 else listV 11 (extB s) none s.xt
structure Head (s : Ser) : Prop where
 f0 : 0 <= s.first
 f1 : s.first <= 36524
 l0 : 0 <= s.last
 l1 : s.last <= 36524
 fl : s.first <= s.last
 lf : s.last <= s.first + 140
 e0 : 1 <= s.every
 e1 : s.every <= 4
 w0 : 0 <= s.wd
 w1 : s.wd <= 127
 n : (s.ex.length : Int) + s.xt.length <= 140
theorem headV_zero (s : Ser) : headV s = 0 ↔ Head s:=by
 unfold headV;constructor
 ·intro h;split at h
  ·cases h
  ·rename_i h1
   simp only [Bool.not_eq_false,Bool.and_eq_true,isD_iff] at h1;split at h
   ·cases h
   ·split at h
    ·cases h
    ·split at h
     ·cases h
     ·exact ⟨by omega,by omega,by omega,by omega,by omega,by omega,by omega,by omega,by omega,by omega,by omega⟩
 ·intro h;obtain ⟨a1,a2,a3,a4,a5,a6,a7,a8,a9,a10,a11⟩:=h;rw [if_neg,if_neg (by omega),if_neg (by omega),if_neg (by omega)];simp only [Bool.not_eq_false,Bool.and_eq_true,isD_iff];omega
def prevO (l : List Int) (k : Nat) : Option Int:=if k = 0 then none else l[k - 1]?
theorem prevO_succ (l : List Int) (k : Nat) (d : Int) (h : l[k]? = some d) : prevO l (k + 1) = some d:=by unfold prevO;simpa using h
def listF (bad : Int) (ok : Int -> Bool) (l : List Int) (k : Nat) : Int:=listV bad ok (prevO l k) (l.drop k)
theorem listF_end (bad : Int) (ok : Int -> Bool) (l : List Int) (k : Nat) (h : l.length <= k) : listF bad ok l k = 0:=by
 unfold listF;rw [List.drop_eq_nil_of_le h];unfold listV;rfl
theorem listF_order (bad : Int) (ok : Int -> Bool) (l : List Int) (k : Nat) (d q : Int) (hd : l[k + 1]? = some d) (hq : l[k]? = some q) (h : d <= q) : listF bad ok l (k + 1) = 63:=by
 unfold listF;obtain ⟨g1,g2⟩:=List.getElem?_eq_some_iff.1 hd;rw [List.drop_eq_getElem_cons g1,g2,prevO_succ l k q hq,listV,if_pos (by simpa [late] using h)]
theorem listF_bad (bad : Int) (ok : Int -> Bool) (l : List Int) (k : Nat) (d : Int) (hd : l[k]? = some d) (h : ∀ j q,k = j + 1 -> l[j]? = some q -> q < d) (ho : ok d = false) : listF bad ok l k = bad:=by
 unfold listF;obtain ⟨g1,g2⟩:=List.getElem?_eq_some_iff.1 hd;rw [List.drop_eq_getElem_cons g1,g2,listV,if_neg,if_neg (by simp [ho])];cases k with
 | zero => simp [prevO,late]
 | succ j =>
  have hj : j < l.length:=by omega
  rw [prevO_succ l j l[j] (List.getElem?_eq_getElem hj)];have:=h j l[j] rfl (List.getElem?_eq_getElem hj);simp [late];omega
theorem listF_step (bad : Int) (ok : Int -> Bool) (l : List Int) (k : Nat) (d : Int) (hd : l[k]? = some d) (h : ∀ j q,k = j + 1 -> l[j]? = some q -> q < d) (ho : ok d = true) : listF bad ok l k = listF bad ok l (k + 1):=by
 unfold listF;rw [prevO_succ l k d hd];obtain ⟨g1,g2⟩:=List.getElem?_eq_some_iff.1 hd;rw [List.drop_eq_getElem_cons g1,g2,listV,if_neg,if_pos ho];cases k with
 | zero => simp [prevO,late]
 | succ j =>
  have hj : j < l.length:=by omega
  rw [prevO_succ l j l[j] (List.getElem?_eq_getElem hj)];have:=h j l[j] rfl (List.getElem?_eq_getElem hj);simp [late];omega
theorem listV_ok (bad : Int) (ok : Int -> Bool) (hb : bad ≠ 0) : ∀ (l : List Int) (p : Option Int),listV bad ok p l = 0 -> (∀ d ∈ l,ok d = true /\ ∀ q,p = some q -> q < d) /\ l.Pairwise (· < ·)
 | [],_,_ => ⟨by simp,List.Pairwise.nil⟩
 | d :: r,p,h => by
  rw [listV] at h;split at h
  ·cases h
  ·rename_i h1
   split at h
   ·rename_i h2
    obtain ⟨a,b⟩:=listV_ok bad ok hb r (some d) h;have hp : ∀ q,p = some q -> q < d:=by
     intro q hq;subst hq;simp [late] at h1;exact h1
    refine ⟨?_,List.pairwise_cons.2 ⟨fun x hx => (a x hx).2 d rfl,b⟩⟩;intro x hx;rcases List.mem_cons.1 hx with rfl | hx
    ·exact ⟨h2,hp⟩
    ·refine ⟨(a x hx).1,fun q hq => ?_⟩;have:=hp q hq;have:=(a x hx).2 d rfl;omega
   ·exact absurd h hb
def daysFrom (a : Int) : Nat -> List Int
 | 0 => []
 | n + 1 => a :: daysFrom (a + 1) n
def span (s : Ser) : List Int:=daysFrom s.first (s.last - s.first + 1).toNat
def inB (s : Ser) (d : Int) : Bool:=(regB s d && !decide (d ∈ s.ex)) || decide (d ∈ s.xt)
def serDays (s : Ser) : List Int:=if serV s ≠ 0 then [] else (span s).filter (inB s)
theorem mem_daysFrom : ∀ (n : Nat) (a d : Int),d ∈ daysFrom a n ↔ a <= d /\ d < a + n
 | 0,a,d => by simp [daysFrom]
 | n + 1,a,d => by rw [daysFrom,List.mem_cons,mem_daysFrom n];omega
theorem daysFrom_sorted : ∀ (n : Nat) (a : Int),(daysFrom a n).Pairwise (· < ·)
 | 0,_ => List.Pairwise.nil
 | n + 1,a => by
  rw [daysFrom,List.pairwise_cons];exact ⟨fun d hd => by rw [mem_daysFrom] at hd;omega,daysFrom_sorted n _⟩
theorem daysFrom_length : ∀ (n : Nat) (a : Int),(daysFrom a n).length = n
 | 0,_ => rfl
 | n + 1,a => by rw [daysFrom,List.length_cons,daysFrom_length n]
theorem daysFrom_snoc : ∀ (n : Nat) (a : Int),daysFrom a (n + 1) = daysFrom a n ++ [a + n]
 | 0,a => by simp [daysFrom]
 | n + 1,a => by
  rw [daysFrom,daysFrom_snoc n (a + 1),daysFrom,List.cons_append];congr 3;omega
theorem sorted_ext : ∀ (a b : List Int),a.Pairwise (· < ·) -> b.Pairwise (· < ·) -> (∀ x,x ∈ a ↔ x ∈ b) -> a = b
 | [],[],_,_,_ => rfl
 | [],y :: b,_,_,h => by have:=(h y).2 (by simp);cases this
 | x :: a,[],_,_,h => by have:=(h x).1 (by simp);cases this
 | x :: a,y :: b,ha,hb,h => by
  rw [List.pairwise_cons] at ha hb;have hxy : x = y:=by
   rcases List.mem_cons.1 ((h x).1 (by simp)) with e | e
   ·exact e
   ·rcases List.mem_cons.1 ((h y).2 (by simp)) with e2 | e2
    ·exact e2.symm
    ·have:=hb.1 x e;have:=ha.1 y e2;omega
  subst hxy;congr 1
  refine sorted_ext a b ha.2 hb.2 (fun z => ?_);constructor
  ·intro hz;rcases List.mem_cons.1 ((h z).1 (by simp [hz])) with e | e
   ·subst e;have:=ha.1 z hz;omega
   ·exact e
  ·intro hz;rcases List.mem_cons.1 ((h z).2 (by simp [hz])) with e | e
   ·subst e;have:=hb.1 z hz;omega
   ·exact e
theorem serV_zero (s : Ser) : serV s = 0 ↔ Head s /\ listV 12 (regB s) none s.ex = 0 /\ listV 11 (extB s) none s.xt = 0:=by
 unfold serV;rw [<- headV_zero];constructor
 ·intro h;split at h
  ·contradiction
  ·rename_i h1
   split at h
   ·contradiction
   ·rename_i h2
    exact ⟨by simpa using h1,by simpa using h2,h⟩
 ·rintro ⟨h1,h2,h3⟩;rw [if_neg (by simp [h1]),if_neg (by simp [h2]),h3]
theorem serDays_sorted (s : Ser) : (serDays s).Pairwise (· < ·):=by
 unfold serDays;split
 ·exact List.Pairwise.nil
 ·exact (daysFrom_sorted _ _).filter _
theorem serDays_of (s : Ser) (h : serV s = 0) (l : List Int) (hs : l.Pairwise (· <= ·)) (hp : l.Perm (s.xt ++ (span s).filter fun d => regB s d && !decide (d ∈ s.ex))) : l = serDays s:=by
 obtain ⟨hh,h2,h3⟩:=(serV_zero s).1 h;obtain ⟨e1,e2⟩:=listV_ok 11 (extB s) (by decide) s.xt none h3;have hsp : (span s).Pairwise (· < ·):=daysFrom_sorted _ _;have hnd : (s.xt ++ (span s).filter fun d => regB s d && !decide (d ∈ s.ex)).Nodup:=by
  rw [List.nodup_append];refine ⟨e2.imp (fun h => by omega),(hsp.filter _).imp (fun h => by omega),?_⟩;intro a ha b hb e;subst e;have h4:=(e1 a ha).1;have h5:=(List.mem_filter.1 hb).2;unfold extB at h4;simp at h4 h5;rw [h4.2] at h5;exact absurd h5.1 (by decide)
 have hnd2 : l.Nodup:=hp.nodup_iff.2 hnd;have hlt : l.Pairwise (· < ·):=by
  have:=hs.and hnd2;exact this.imp (fun h => by omega)
 have hm : ∀ x,x ∈ l ↔ x ∈ serDays s:=by
  intro x;rw [hp.mem_iff,List.mem_append,List.mem_filter];unfold serDays;rw [if_neg (by simp [h]),List.mem_filter];unfold inB;constructor
  ·rintro (h6 | ⟨h6,h7⟩)
   ·refine ⟨?_,by simp [h6]⟩;have h4:=(e1 x h6).1;unfold extB at h4;simp at h4;unfold span;rw [mem_daysFrom];omega
   ·exact ⟨h6,by rw [h7];rfl⟩
  ·rintro ⟨h6,h7⟩;rw [Bool.or_eq_true] at h7;rcases h7 with h7 | h7
   ·exact .inr ⟨h6,h7⟩
   ·exact .inl (by simpa using h7)
 exact sorted_ext _ _ hlt (serDays_sorted s) hm
end Tt
namespace Tt
theorem serV_head (s : Ser) (h : headV s ≠ 0) : serV s = headV s:=by unfold serV;rw [if_pos h]
theorem serV_ex (s : Ser) (h : Head s) (k : Nat) (x : Int) (h2 : listV 12 (regB s) none s.ex = listF 12 (regB s) s.ex k) (h3 : listF 12 (regB s) s.ex k = x) (hx : x ≠ 0) : serV s = x:=by
 unfold serV;rw [if_neg (by simp [(headV_zero s).2 h]),if_pos (by rw [h2,h3];exact hx),h2,h3]
theorem serV_xt (s : Ser) (h : Head s) (k : Nat) (h1 : listV 12 (regB s) none s.ex = 0) (h2 : listV 11 (extB s) none s.xt = listF 11 (extB s) s.xt k) : serV s = listF 11 (extB s) s.xt k:=by
 unfold serV;rw [if_neg (by simp [(headV_zero s).2 h]),if_neg (by simp [h1]),h2]
end Tt
namespace Tt
theorem extB_out (s : Ser) (d : Int) (h : d < s.first ∨ s.last < d) : extB s d = false:=by
 unfold extB;rcases h with h | h
 ·rw [decide_eq_false (by omega)];rfl
 ·rw [decide_eq_false (show ¬ d <= s.last by omega)];simp
theorem extB_in (s : Ser) (d : Int) (h : ¬ (d < s.first ∨ s.last < d)) : extB s d = !regB s d:=by
 unfold extB;rw [decide_eq_true (by omega),decide_eq_true (by omega)];rfl
end Tt
namespace Tt
end Tt
namespace Go.Proofs
open Go.Shelf
open Go.RowKit in
open Go.RowKit in
open Go.RowKit in
open Go.RowKit in
open Go.RowKit in
open Go.RowKit in
open Go.RowKit in
open Go.RowKit in
open Go.RowKit in
def Tryz.lays106_ren : Go.Shelf.Ren:=⟨fun | 106 => 130 | 213 => 201 | 265 => 279 | n => n,fun | 9 => 9 | 3 => 3 | n => n,fun | n => n⟩
theorem Tryz.lays106 : Go.Proofs.Lays.n106 Tryz.prog Tryz.lays106_ren:={
 mixed:=by kernel_rfl
 f106:=Tryz.func130.trans (congrArg some (by kernel_rfl))
 f213:=Tryz.func201.trans (congrArg some (by kernel_rfl))
 f265:=Tryz.func279.trans (congrArg some (by kernel_rfl))
 t3:=Tryz.underlying3
 a3:=Tryz.isAgg3
 z3:=Tryz.sizeOf3
 v3:=Tryz.zeroValue3
 t9:=Tryz.underlying9
 a9:=Tryz.isAgg9
 z9:=Tryz.sizeOf9
 v9:=Tryz.zeroValue9 }
open Go.RowKit in
theorem Tryz.strings_Compare (a b : ByteArray) (w : World) :
  Calls Tryz.prog 130 #[.string a,.string b] w fun e w' => e = .returned (.int .i64 (Lib.compareBytes a.data.toList b.data.toList)) /\ w' = w:=Any.strings_Compare Tryz.lays106 a b w
open Go.RowKit in
open Go.RowKit in
open Go.RowKit in
open Go.RowKit in
open Go.RowKit in
open Go.RowKit in
def Tryz.lays122_ren : Go.Shelf.Ren:=⟨fun | 122 => 268 | 215 => 320 | n => n,fun | 3 => 3 | 4 => 4 | n => n,fun | n => n⟩
theorem Tryz.lays122 : Go.Proofs.Lays.n122 Tryz.prog Tryz.lays122_ren:={
 mixed:=by kernel_rfl
 f122:=Tryz.func268.trans (congrArg some (by kernel_rfl))
 f215:=Tryz.func320.trans (congrArg some (by kernel_rfl))
 t3:=Tryz.underlying3
 a3:=Tryz.isAgg3
 z3:=Tryz.sizeOf3
 v3:=Tryz.zeroValue3
 t4:=Tryz.underlying4
 a4:=Tryz.isAgg4
 z4:=Tryz.sizeOf4
 v4:=Tryz.zeroValue4 }
open Go.RowKit in
theorem Tryz.cmp_Compare_int (x y : Int) (w : World) :
  Calls Tryz.prog 268 #[.int .i64 x,.int .i64 y] w fun e w' => e = .returned (.int .i64 (Lib.compareInt x y)) /\ w' = w:=Any.cmp_Compare_int Tryz.lays122 x y w
open Go.RowKit in
open Go.RowKit in
open Go.RowKit in
open Go.RowKit in
open Go.RowKit in
open Go.RowKit in
open Go.RowKit in
open Go.RowKit in
open Go.RowKit in
open Go.Lib in
open Go.Lib in
open Go.Lib in
open Go.RowKit Go.Sort Go.Lib in
open Go.RowKit Go.Sort Go.Lib in
open Go.RowKit Go.Sort Go.Lib in
def Tryz.laysM171_ren : Go.Shelf.Ren:=⟨fun | 171 => 136 | 243 => 208 | 246 => 281 | 283 => 328 | 284 => 329 | 285 => 330 | 286 => 331 | 129 => 230 | 317 => 347 | 318 => 348 | 319 => 349 | 320 => 269 | 337 => 321 | 338 => 322 | n => n,fun | 3 => 3 | 9 => 9 | 2 => 2 | 4 => 4 | 171 => 309 | 0 => 0 | 53 => 245 | 37 => 76 | 5 => 5 | 173 => 311 | 212 => 330 | 51 => 243 | 20 => 20 | 213 => 331 | 46 => 185 | 232 => 325 | 233 => 326 | n => n,fun | 17 => 6 | 18 => 4 | 19 => 5 | n => n⟩
theorem Tryz.laysM171 : Go.Proofs.LaysM.n171 Tryz.prog Tryz.laysM171_ren:={
 mixed:=by kernel_rfl
 f129:=Tryz.func230.trans (congrArg some (by kernel_rfl))
 f171:=Tryz.func136.trans (congrArg some (by kernel_rfl))
 f243:=Tryz.func208.trans (congrArg some (by kernel_rfl))
 f246:=Tryz.func281.trans (congrArg some (by kernel_rfl))
 f283:=Tryz.func328.trans (congrArg some (by kernel_rfl))
 f284:=Tryz.func329.trans (congrArg some (by kernel_rfl))
 f285:=Tryz.func330.trans (congrArg some (by kernel_rfl))
 f286:=Tryz.func331.trans (congrArg some (by kernel_rfl))
 f317:=Tryz.func347.trans (congrArg some (by kernel_rfl))
 f318:=Tryz.func348.trans (congrArg some (by kernel_rfl))
 f319:=Tryz.func349.trans (congrArg some (by kernel_rfl))
 f320:=Tryz.func269.trans (congrArg some (by kernel_rfl))
 f337:=Tryz.func321.trans (congrArg some (by kernel_rfl))
 f338:=Tryz.func322.trans (congrArg some (by kernel_rfl))
 t0:=Tryz.underlying0
 a0:=Tryz.isAgg0
 z0:=Tryz.sizeOf0
 v0:=Tryz.zeroValue0
 t2:=Tryz.underlying2
 a2:=Tryz.isAgg2
 z2:=Tryz.sizeOf2
 v2:=Tryz.zeroValue2
 t3:=Tryz.underlying3
 a3:=Tryz.isAgg3
 z3:=Tryz.sizeOf3
 v3:=Tryz.zeroValue3
 t4:=Tryz.underlying4
 a4:=Tryz.isAgg4
 z4:=Tryz.sizeOf4
 v4:=Tryz.zeroValue4
 t5:=Tryz.underlying5
 a5:=Tryz.isAgg5
 z5:=Tryz.sizeOf5
 v5:=Tryz.zeroValue5
 t9:=Tryz.underlying9
 a9:=Tryz.isAgg9
 z9:=Tryz.sizeOf9
 v9:=Tryz.zeroValue9
 t20:=Tryz.underlying20
 a20:=Tryz.isAgg20
 z20:=Tryz.sizeOf20
 v20:=Tryz.zeroValue20
 t37:=Tryz.underlying76
 a37:=Tryz.isAgg76
 z37:=Tryz.sizeOf76
 v37:=Tryz.zeroValue76
 t46:=Tryz.underlying185
 a46:=Tryz.isAgg185
 z46:=Tryz.sizeOf185
 v46:=Tryz.zeroValue185
 t51:=Tryz.underlying243
 a51:=Tryz.isAgg243
 z51:=Tryz.sizeOf243
 v51:=Tryz.zeroValue243
 t53:=Tryz.underlying245
 a53:=Tryz.isAgg245
 z53:=Tryz.sizeOf245
 v53:=Tryz.zeroValue245
 t171:=Tryz.underlying309
 a171:=Tryz.isAgg309
 z171:=Tryz.sizeOf309
 v171:=Tryz.zeroValue309
 t173:=Tryz.underlying311
 a173:=Tryz.isAgg311
 z173:=Tryz.sizeOf311
 v173:=Tryz.zeroValue311
 t212:=Tryz.underlying330
 a212:=Tryz.isAgg330
 z212:=Tryz.sizeOf330
 v212:=Tryz.zeroValue330
 t213:=Tryz.underlying331
 a213:=Tryz.isAgg331
 z213:=Tryz.sizeOf331
 t232:=Tryz.underlying325
 a232:=Tryz.isAgg325
 z232:=Tryz.sizeOf325
 v232:=Tryz.zeroValue325
 t233:=Tryz.underlying326
 a233:=Tryz.isAgg326
 z233:=Tryz.sizeOf326
 v233:=Tryz.zeroValue326
 g17:=by kernel_rfl
 g18:=by kernel_rfl
 g19:=by kernel_rfl
 i0:=by kernel_rfl
 i2:=by kernel_rfl
 i3:=by kernel_rfl
 i4:=by kernel_rfl
 i5:=by kernel_rfl
 i9:=by kernel_rfl
 i20:=by kernel_rfl
 i37:=by kernel_rfl
 i46:=by kernel_rfl
 i51:=by kernel_rfl
 i53:=by kernel_rfl
 i171:=by kernel_rfl
 i173:=by kernel_rfl
 i212:=by kernel_rfl
 i232:=by kernel_rfl
 i233:=by kernel_rfl
 m17:=by kernel_rfl
 m18:=by kernel_rfl
 m19:=by kernel_rfl }
def Tryz.lays171_ren : Go.Shelf.Ren:=⟨fun | 171 => 136 | 243 => 208 | 246 => 281 | 283 => 328 | 284 => 329 | 285 => 330 | 286 => 331 | 129 => 230 | 317 => 347 | 318 => 348 | 319 => 349 | 320 => 269 | 337 => 321 | 338 => 322 | n => n,fun | 3 => 3 | 9 => 9 | 2 => 2 | 4 => 4 | 171 => 309 | 0 => 0 | 53 => 245 | 37 => 76 | 5 => 5 | 173 => 311 | 212 => 330 | 51 => 243 | 20 => 20 | 213 => 331 | 46 => 185 | 232 => 325 | 233 => 326 | n => n,fun | 17 => 6 | 18 => 4 | 19 => 5 | n => n⟩
theorem Tryz.lays171 : Go.Proofs.Lays.n171 Tryz.prog Tryz.lays171_ren:={
 mixed:=by kernel_rfl
 f129:=Tryz.func230.trans (congrArg some (by kernel_rfl))
 f171:=Tryz.func136.trans (congrArg some (by kernel_rfl))
 f243:=Tryz.func208.trans (congrArg some (by kernel_rfl))
 f246:=Tryz.func281.trans (congrArg some (by kernel_rfl))
 f283:=Tryz.func328.trans (congrArg some (by kernel_rfl))
 f284:=Tryz.func329.trans (congrArg some (by kernel_rfl))
 f285:=Tryz.func330.trans (congrArg some (by kernel_rfl))
 f286:=Tryz.func331.trans (congrArg some (by kernel_rfl))
 f317:=Tryz.func347.trans (congrArg some (by kernel_rfl))
 f318:=Tryz.func348.trans (congrArg some (by kernel_rfl))
 f319:=Tryz.func349.trans (congrArg some (by kernel_rfl))
 f320:=Tryz.func269.trans (congrArg some (by kernel_rfl))
 f337:=Tryz.func321.trans (congrArg some (by kernel_rfl))
 f338:=Tryz.func322.trans (congrArg some (by kernel_rfl))
 t0:=Tryz.underlying0
 a0:=Tryz.isAgg0
 z0:=Tryz.sizeOf0
 v0:=Tryz.zeroValue0
 t2:=Tryz.underlying2
 a2:=Tryz.isAgg2
 z2:=Tryz.sizeOf2
 v2:=Tryz.zeroValue2
 t3:=Tryz.underlying3
 a3:=Tryz.isAgg3
 z3:=Tryz.sizeOf3
 v3:=Tryz.zeroValue3
 t4:=Tryz.underlying4
 a4:=Tryz.isAgg4
 z4:=Tryz.sizeOf4
 v4:=Tryz.zeroValue4
 t5:=Tryz.underlying5
 a5:=Tryz.isAgg5
 z5:=Tryz.sizeOf5
 v5:=Tryz.zeroValue5
 t9:=Tryz.underlying9
 a9:=Tryz.isAgg9
 z9:=Tryz.sizeOf9
 v9:=Tryz.zeroValue9
 t20:=Tryz.underlying20
 a20:=Tryz.isAgg20
 z20:=Tryz.sizeOf20
 v20:=Tryz.zeroValue20
 t37:=Tryz.underlying76
 a37:=Tryz.isAgg76
 z37:=Tryz.sizeOf76
 v37:=Tryz.zeroValue76
 t46:=Tryz.underlying185
 a46:=Tryz.isAgg185
 z46:=Tryz.sizeOf185
 v46:=Tryz.zeroValue185
 t51:=Tryz.underlying243
 a51:=Tryz.isAgg243
 z51:=Tryz.sizeOf243
 v51:=Tryz.zeroValue243
 t53:=Tryz.underlying245
 a53:=Tryz.isAgg245
 z53:=Tryz.sizeOf245
 v53:=Tryz.zeroValue245
 t171:=Tryz.underlying309
 a171:=Tryz.isAgg309
 z171:=Tryz.sizeOf309
 v171:=Tryz.zeroValue309
 t173:=Tryz.underlying311
 a173:=Tryz.isAgg311
 z173:=Tryz.sizeOf311
 v173:=Tryz.zeroValue311
 t212:=Tryz.underlying330
 a212:=Tryz.isAgg330
 z212:=Tryz.sizeOf330
 v212:=Tryz.zeroValue330
 t213:=Tryz.underlying331
 a213:=Tryz.isAgg331
 z213:=Tryz.sizeOf331
 t232:=Tryz.underlying325
 a232:=Tryz.isAgg325
 z232:=Tryz.sizeOf325
 v232:=Tryz.zeroValue325
 t233:=Tryz.underlying326
 a233:=Tryz.isAgg326
 z233:=Tryz.sizeOf326
 v233:=Tryz.zeroValue326
 g17:=by kernel_rfl
 g18:=by kernel_rfl
 g19:=by kernel_rfl }
open Go.RowKit Go.Sort Go.Lib in
theorem Tryz.strconv_Itoa_small (i : Nat) (hi : i < 100) (w : World) :
  Calls Tryz.prog 136 #[.int .i64 i] w fun e w' => e = .returned (.string ⟨(Lib.decDigits i).toArray⟩) /\ w' = w:=Any.strconv_Itoa_small Tryz.lays171 i hi w
open Go.RowKit Go.Lib in
open Go.RowKit Go.Lib in
open Go.RowKit Go.Lib in
open Go.RowKit Go.Lib in
def Tryz.lays219_ren : Go.Shelf.Ren:=⟨fun | 219 => 302 | 217 => 338 | 225 => 306 | 224 => 305 | 267 => 339 | 266 => 351 | 314 => 352 | n => n,fun | 9 => 9 | 3 => 3 | 4 => 4 | 5 => 5 | 46 => 185 | 146 => 337 | 51 => 243 | n => n,fun | 1 => 0 | n => n⟩
theorem Tryz.lays219 : Go.Proofs.Lays.n219 Tryz.prog Tryz.lays219_ren:={
 mixed:=by kernel_rfl
 f217:=Tryz.func338.trans (congrArg some (by kernel_rfl))
 f219:=Tryz.func302.trans (congrArg some (by kernel_rfl))
 f224:=Tryz.func305.trans (congrArg some (by kernel_rfl))
 f225:=Tryz.func306.trans (congrArg some (by kernel_rfl))
 f266:=Tryz.func351.trans (congrArg some (by kernel_rfl))
 f267:=Tryz.func339.trans (congrArg some (by kernel_rfl))
 f314:=Tryz.func352.trans (congrArg some (by kernel_rfl))
 t3:=Tryz.underlying3
 a3:=Tryz.isAgg3
 z3:=Tryz.sizeOf3
 v3:=Tryz.zeroValue3
 t4:=Tryz.underlying4
 a4:=Tryz.isAgg4
 z4:=Tryz.sizeOf4
 v4:=Tryz.zeroValue4
 t5:=Tryz.underlying5
 a5:=Tryz.isAgg5
 z5:=Tryz.sizeOf5
 v5:=Tryz.zeroValue5
 t9:=Tryz.underlying9
 a9:=Tryz.isAgg9
 z9:=Tryz.sizeOf9
 v9:=Tryz.zeroValue9
 t46:=Tryz.underlying185
 a46:=Tryz.isAgg185
 z46:=Tryz.sizeOf185
 v46:=Tryz.zeroValue185
 t51:=Tryz.underlying243
 a51:=Tryz.isAgg243
 z51:=Tryz.sizeOf243
 v51:=Tryz.zeroValue243
 t146:=Tryz.underlying337
 a146:=Tryz.isAgg337
 z146:=Tryz.sizeOf337
 v146:=Tryz.zeroValue337
 g1:=by kernel_rfl }
open Go.RowKit Go.Lib in
theorem Tryz.stringslite_Index_one (s : ByteArray) (c : UInt8) (w : World) :
  Calls Tryz.prog 302 #[.string s,.string ⟨#[c]⟩] w fun e w' => e = .returned (.int .i64 (Lib.indexByte s.data.toList c)) /\ w' = w:=Any.stringslite_Index_one Tryz.lays219 s c w
open Go.RowKit Go.Lib in
open Go.RowKit Go.Lib in
open Go.RowKit Go.Lib in
open Go.RowKit Go.Lib in
open Go.RowKit Go.Lib in
open Go.RowKit Go.Lib in
open Go.RowKit Go.Lib in
open Go.RowKit Go.Lib in
open Go.RowKit Go.Lib in
open Go.RowKit Go.Lib in
open Go.RowKit Go.Lib in
open Go.RowKit Go.Lib in
open Go.RowKit Go.Lib in
open Go.RowKit Go.Lib in
open Go.RowKit Go.Lib in
open Go.RowKit Go.Lib in
open Go.RowKit Go.Lib in
open Go.RowKit Go.Lib in
open Go.RowKit Go.Lib in
open Go.RowKit Go.Lib in
open Go.RowKit Go.Lib in
open Go.RowKit Go.Lib in
open Go.RowKit Go.Lib in
open Go.RowKit Go.Lib in
open Go.RowKit Go.Lib in
open Go.RowKit Go.Lib in
open Go.RowKit Go.Lib in
open Go.RowKit Go.Lib in
open Go.RowKit Go.Lib in
open Go.RowKit Go.Lib in
open Go.RowKit Go.Lib in
open Go.RowKit Go.Lib in
open Go.RowKit Go.Lib in
open Go.RowKit Go.Lib in
open Go.RowKit Go.Lib in
open Go.RowKit Go.Lib in
open Go.RowKit Go.Lib in
open Go.RowKit Go.Lib in
open Go.RowKit Go.Lib in
open Go.RowKit Go.Lib in
open Go.RowKit Go.Lib in
open Go.Lib in
open Go.Lib in
def Tryz.lays107_ren : Go.Shelf.Ren:=⟨fun | 107 => 148 | 108 => 222 | n => n,fun | 28 => 27 | 3 => 3 | 4 => 4 | 0 => 0 | n => n,fun | n => n⟩
theorem Tryz.lays107 : Go.Proofs.Lays.n107 Tryz.prog Tryz.lays107_ren:={
 mixed:=by kernel_rfl
 f107:=Tryz.func148.trans (congrArg some (by kernel_rfl))
 f108:=Tryz.func222.trans (congrArg some (by kernel_rfl))
 t0:=Tryz.underlying0
 a0:=Tryz.isAgg0
 z0:=Tryz.sizeOf0
 v0:=Tryz.zeroValue0
 t3:=Tryz.underlying3
 a3:=Tryz.isAgg3
 z3:=Tryz.sizeOf3
 v3:=Tryz.zeroValue3
 t4:=Tryz.underlying4
 a4:=Tryz.isAgg4
 z4:=Tryz.sizeOf4
 v4:=Tryz.zeroValue4
 t28:=Tryz.underlying27
 a28:=Tryz.isAgg27
 z28:=Tryz.sizeOf27
 v28:=Tryz.zeroValue27 }
open Go.Lib in
theorem Tryz.slices_Contains_int (b off n c : Nat) (zs : List Int) (x : Int) (w : World) (hz : n <= zs.length) (hbig : n <= 9223372036854775807) (hc : ∀ j,j < zs.length -> w.cell? ⟨b,off + j,none⟩ = some (.int .i64 (zs.getD j 0))) :
  Calls Tryz.prog 148 #[.slice (some ⟨b,off,none⟩) n c,.int .i64 x] w fun e w' => e = .returned (.bool ((zs.take n).contains x)) /\ w' = w:=Any.slices_Contains_int Tryz.lays107 b off n c zs x w hz hbig hc
open Go.Lib in
theorem Tryz.slices_Contains_int_empty (a : Option Addr) (c : Nat) (x : Int) (w : World) :
  Calls Tryz.prog 148 #[.slice a 0 c,.int .i64 x] w fun e w' => e = .returned (.bool false) /\ w' = w:=Any.slices_Contains_int_empty Tryz.lays107 a c x w
def Tryz.lays111_ren : Go.Shelf.Ren:=⟨fun | 111 => 270 | n => n,fun | 28 => 27 | 3 => 3 | 4 => 4 | 0 => 0 | n => n,fun | n => n⟩
theorem Tryz.lays111 : Go.Proofs.Lays.n111 Tryz.prog Tryz.lays111_ren:={
 mixed:=by kernel_rfl
 f111:=Tryz.func270.trans (congrArg some (by kernel_rfl))
 t0:=Tryz.underlying0
 a0:=Tryz.isAgg0
 z0:=Tryz.sizeOf0
 v0:=Tryz.zeroValue0
 t3:=Tryz.underlying3
 a3:=Tryz.isAgg3
 z3:=Tryz.sizeOf3
 v3:=Tryz.zeroValue3
 t4:=Tryz.underlying4
 a4:=Tryz.isAgg4
 z4:=Tryz.sizeOf4
 v4:=Tryz.zeroValue4
 t28:=Tryz.underlying27
 a28:=Tryz.isAgg27
 z28:=Tryz.sizeOf27
 v28:=Tryz.zeroValue27 }
open Go.RowKit Go.Lib in
theorem Tryz.slices_Equal_int (b1 o1 n c b2 o2 m d : Nat) (xs ys : List Int) (w : World) (hx : n <= xs.length) (hy : m <= ys.length) (hbig : n <= 9223372036854775807) (hbig2 : m <= 9223372036854775807) (hc1 : ∀ j,j < xs.length -> w.cell? ⟨b1,o1 + j,none⟩ = some (.int .i64 (xs.getD j 0))) (hc2 : ∀ j,j < ys.length -> w.cell? ⟨b2,o2 + j,none⟩ = some (.int .i64 (ys.getD j 0))) :
  Calls Tryz.prog 270 #[.slice (some ⟨b1,o1,none⟩) n c,.slice (some ⟨b2,o2,none⟩) m d] w fun e w' => e = .returned (.bool (xs.take n == ys.take m)) /\ ∃ q,w' = w.drewN q:=Any.slices_Equal_int Tryz.lays111 b1 o1 n c b2 o2 m d xs ys w hx hy hbig hbig2 hc1 hc2
open Go.RowKit Go.Lib in
theorem Tryz.slices_Equal_int_empty (a1 a2 : Option Addr) (c m d : Nat) (w : World) (hbig2 : m <= 9223372036854775807) :
  Calls Tryz.prog 270 #[.slice a1 0 c,.slice a2 m d] w fun e w' => e = .returned (.bool (decide (m = 0))) /\ w' = w:=Any.slices_Equal_int_empty Tryz.lays111 a1 a2 c m d w hbig2
def Tryz.laysNm215_ren : Go.Shelf.Ren:=⟨fun | 15 => 146 | n => n,fun | 22 => 27 | 3 => 3 | 4 => 4 | n => n,fun | n => n⟩
theorem Tryz.laysNm215 : Go.Proofs.Lays2.n15 Tryz.prog Tryz.laysNm215_ren:={
 mixed:=by kernel_rfl
 f15:=Tryz.func146.trans (congrArg some (by kernel_rfl))
 t3:=Tryz.underlying3
 a3:=Tryz.isAgg3
 z3:=Tryz.sizeOf3
 v3:=Tryz.zeroValue3
 t4:=Tryz.underlying4
 a4:=Tryz.isAgg4
 z4:=Tryz.sizeOf4
 v4:=Tryz.zeroValue4
 t22:=Tryz.underlying27
 a22:=Tryz.isAgg27
 z22:=Tryz.sizeOf27
 v22:=Tryz.zeroValue27
 i3:=by kernel_rfl }
open Go.RowKit Go.Lib in
theorem Tryz.slices_Clone_int (b off n c : Nat) (zs : List Int) (w : World) (hz : n <= zs.length) (hbig : n * 8 <= 140737488355328) (hc : ∀ j,j < zs.length -> w.cell? ⟨b,off + j,none⟩ = some (.int .i64 (zs.getD j 0))) :
  Calls Tryz.prog 146 #[.slice (some ⟨b,off,none⟩) n c] w fun e w' => ∃ v',e = .returned v' /\ w'.ownsRow w.heap.size 3 1 v' n ((zs.take n).map (Value.int .i64)) /\ v' ≠ .slice none 0 0 /\ Below w.heap.size w w':=Any.slices_Clone_int Tryz.laysNm215 b off n c zs w hz hbig hc
open Go.RowKit Go.Lib in
theorem Tryz.slices_Clone_int_nil (n c : Nat) (w : World) :
  Calls Tryz.prog 146 #[.slice none n c] w fun e w' => e = .returned (.slice none 0 0) /\ w' = w:=Any.slices_Clone_int_nil Tryz.laysNm215 n c w
open Go.RowKit Go.Lib in
theorem Tryz.slices_Clone_int_zero (a : Addr) (c : Nat) (w : World) :
  Calls Tryz.prog 146 #[.slice (some a) 0 c] w fun e w' => ∃ v',e = .returned v' /\ w'.ownsRow w.heap.size 3 1 v' 0 [] /\ v' ≠ .slice none 0 0 /\ Below w.heap.size w w':=Any.slices_Clone_int_zero Tryz.laysNm215 a c w
end Go.Proofs
namespace Go.Proofs.YtageielcdebjlaaGreatDoor
open Go.RowKit
structure But (b B : Nat) (w w' : World) : Prop where
 os : w'.os = w.os
 tape : w'.tape = w.tape
 output : w'.output = w.output
 size : w.heap.size <= w'.heap.size
 block : ∀ k,k < B -> k ≠ b -> w'.heap[k]? = w.heap[k]?
theorem But.refl (b B : Nat) (w : World) : But b B w w:=⟨rfl,rfl,rfl,Nat.le_refl _,fun _ _ _ => rfl⟩
theorem But.trans {b B : Nat} {w1 w2 w3 : World} (h : But b B w1 w2) (k : But b B w2 w3) : But b B w1 w3 :=
 ⟨k.os.trans h.os,k.tape.trans h.tape,k.output.trans h.output,Nat.le_trans h.size k.size,fun i hi hb => (k.block i hi hb).trans (h.block i hi hb)⟩
theorem But.below {b B B' : Nat} {w w' : World} (h : But b B w w') (h1 : B' <= b) (h2 : B' <= B) : Below B' w w' :=
 ⟨h.os,h.tape,h.output,h.size,fun k hk => h.block k (by omega) (by omega)⟩
theorem But.of_below {b B : Nat} {w w' : World} (h : Below B w w') : But b B w w':=⟨h.os,h.tape,h.output,h.size,fun k hk _ => h.block k hk⟩
end Go.Proofs.YtageielcdebjlaaGreatDoor
namespace Tt
/-! ### Lines -/
def Clean (l : List UInt8) : Prop:=∀ c ∈ l,c ≠ 13 /\ c ≠ 10
instance (l : List UInt8) : Decidable (Clean l):=by unfold Clean;infer_instance
/-! ### Split at the ends -/
open Go.Lib
/-! ### Folding -/
end Tt
-- Esc
namespace Go.Proofs.YtageielcdebjlaaGreatDoor
open Go.RowKit
theorem bytes_of (s : ByteArray) (w : World) : ∃ cap W',(convert 9 76 (.string s)).run Tryz.prog w = .ok (.slice (some ⟨w.heap.size,0,none⟩) s.size cap) W' /\ Below w.heap.size w W' /\ w.heap.size + 1 <= W'.heap.size /\
  ∀ j c,s.data.toList[j]? = some c -> W'.cell? ⟨w.heap.size,j,none⟩ = some (.int .u8 (c.toNat : Int)):=by
 refine ⟨_,_,run_bytes_of_string w 9 76 5 s Tryz.underlying9 Tryz.underlying76 Tryz.underlying5,⟨rfl,rfl,rfl,by simp,fun k hk => ?_⟩,by simp,fun j c hj => ?_⟩
 ·exact Below.heap_alloc w.drew _ k hk
 ·have hnew : ∀ (w : World) (o : Obj),(w.alloc o).heap[w.heap.size]? = some o:=fun w o => heap_alloc_new w o
  have h2:=hnew w.drew (.cells (bytesRow s (grownCap w s.size 0 5)) 5 ((bytesRow s (grownCap w s.size 0 5)).size,(bytesRow s (grownCap w s.size 0 5)).size + 1));have h3 : w.drew.heap.size = w.heap.size:=rfl;rw [h3] at h2;rw [World.cell?];simp only [h2];have hj' : j < s.data.size:=by have:=(List.getElem?_eq_some_iff.1 hj).1;simpa using this
  have : s.data[j]? = some c:=by rw [<- Array.getElem?_toList];exact hj
  have hj2 : j < s.size:=hj';have h4:=(Array.getElem?_eq_some_iff.1 this).2;simp [bytesRow,Array.getElem?_append,hj2];rw [h4]
theorem ret_str {a b : List UInt8} (h : a = b) : Ending.returned (.string ⟨a.toArray⟩) = .returned (.string ⟨b.toArray⟩):=by rw [h]
end Go.Proofs.YtageielcdebjlaaGreatDoor
-- Unesc
namespace Go.Proofs.YtageielcdebjlaaGreatDoor
open Go.RowKit
theorem byte_eq (c : UInt8) (m : Int) (u : UInt8) (hu : (u.toNat : Int) = m) (h : c = u) : ((c.toNat : Int) == m) = true:=by rw [h,hu];exact beq_self_eq_true _
theorem byte_ne (c : UInt8) (m : Int) (u : UInt8) (hu : (u.toNat : Int) = m) (h : ¬ c = u) : ((c.toNat : Int) == m) = false:=by
 rw [beq_eq_false_iff_ne];intro e;exact h (UInt8.toNat_inj.1 (by omega))
theorem drop_cons (l : List UInt8) (k : Nat) (c : UInt8) (h : l[k]? = some c) : l.drop k = c :: l.drop (k + 1):=by
 obtain ⟨h1,h2⟩:=List.getElem?_eq_some_iff.1 h;rw [List.drop_eq_getElem_cons h1,h2]
end Go.Proofs.YtageielcdebjlaaGreatDoor
-- Codes
namespace Tt
def alnum (c : UInt8) : Bool:=(48 <= c && c <= 57) || (65 <= c && c <= 90) || (97 <= c && c <= 122)
def sign (c : UInt8) : Bool:=c == 95 || c == 45
def codeTail (l : List UInt8) : Bool:=l.all fun c => alnum c || sign c
def code (l : List UInt8) : Bool:=match l with
 | [] => false
 | c :: r => decide (l.length <= 16) && alnum c && codeTail r
end Tt
namespace Go.Proofs.YtageielcdebjlaaGreatDoor
open Go.RowKit
def digitB (c : UInt8) : Bool:=48 <= c && c <= 57
def letterB (c : UInt8) : Bool:=(65 <= c && c <= 90) || (97 <= c && c <= 122)
theorem u8_le (c : UInt8) (k : Nat) (hk : k < 256) : decide ((k : Int) <= (c.toNat : Int)) = decide (k.toUInt8 <= c):=by
 have : (k.toUInt8).toNat = k:=by simp;omega
 rw [Bool.eq_iff_iff,decide_eq_true_iff,decide_eq_true_iff,UInt8.le_iff_toNat_le,this];omega
theorem u8_ge (c : UInt8) (k : Nat) (hk : k < 256) : decide ((c.toNat : Int) <= (k : Int)) = decide (c <= k.toUInt8):=by
 have : (k.toUInt8).toNat = k:=by simp;omega
 rw [Bool.eq_iff_iff,decide_eq_true_iff,decide_eq_true_iff,UInt8.le_iff_toNat_le,this];omega
theorem digit_any (n : Int) (c : UInt8) (hn : n = c.toNat) (w : World) : Calls Tryz.prog 164 #[.int .u8 n] w fun e w' => e = .returned (.bool (digitB c)) /\ w' = w:=by
 have h1:=u8_le c 48 (by omega);have h2:=u8_ge c 57 (by omega);rw [<- hn] at h1 h2;have hd : digitB c = (decide ((48 : Int) <= n) && decide (n <= (57 : Int))):=by
  rw [show (48 : Int) = ((48 : Nat) : Int) from rfl,show (57 : Int) = ((57 : Nat) : Int) from rfl,h1,h2];rfl
 have HD:=Lh hd;clear hd h1 h2 hn;by_cases a : (48 : Int) <= n
 ·by_cases b : n <= (57 : Int)
  ·have HE:=Lh (show digitB c = true by rw [HD.out];simp [a,b]);go_enter Tryz.func164,Tryz.ntmps164;go_wp2;go_ret;rw [HE.out];exact ⟨rfl,rfl⟩
  ·have HE:=Lh (show digitB c = false by rw [HD.out];simp;omega);go_enter Tryz.func164,Tryz.ntmps164;go_wp2;go_ret;rw [HE.out];exact ⟨rfl,rfl⟩
 ·have HE:=Lh (show digitB c = false by rw [HD.out];simp;omega);go_enter Tryz.func164,Tryz.ntmps164;go_wp2;go_ret;rw [HE.out];exact ⟨rfl,rfl⟩
theorem letter_any (n : Int) (c : UInt8) (hn : n = c.toNat) (w : World) : Calls Tryz.prog 165 #[.int .u8 n] w fun e w' => e = .returned (.bool (letterB c)) /\ w' = w:=by
 have h1:=u8_le c 65 (by omega);have h2:=u8_ge c 90 (by omega);have h3:=u8_le c 97 (by omega);have h4:=u8_ge c 122 (by omega);rw [<- hn] at h1 h2 h3 h4;have hd : letterB c = ((decide ((65 : Int) <= n) && decide (n <= (90 : Int))) || (decide ((97 : Int) <= n) && decide (n <= (122 : Int)))):=by
  rw [show (65 : Int) = ((65 : Nat) : Int) from rfl,show (90 : Int) = ((90 : Nat) : Int) from rfl,show (97 : Int) = ((97 : Nat) : Int) from rfl,show (122 : Int) = ((122 : Nat) : Int) from rfl,h1,h2,h3,h4];rfl
 have HD:=Lh hd;clear hd h1 h2 h3 h4 hn;have key : (n < 65) ∨ (65 <= n /\ n <= 90) ∨ (90 < n /\ n < 97) ∨ (97 <= n /\ n <= 122) ∨ (122 < n):=by omega
 rcases key with a | ⟨a,b⟩ | ⟨a,b⟩ | ⟨a,b⟩ | a
 ·have HE:=Lh (show letterB c = false by rw [HD.out];simp;omega);go_enter Tryz.func165,Tryz.ntmps165;go_wp2;go_ret;rw [HE.out];exact ⟨rfl,rfl⟩
 ·have HE:=Lh (show letterB c = true by rw [HD.out];simp;omega);go_enter Tryz.func165,Tryz.ntmps165;go_wp2;go_ret;rw [HE.out];exact ⟨rfl,rfl⟩
 ·have HE:=Lh (show letterB c = false by rw [HD.out];simp;omega);have f1 : decide (n <= 90) = false:=decide_eq_false (by omega);go_enter Tryz.func165,Tryz.ntmps165;go_wp2;go_ret;rw [HE.out];exact ⟨rfl,rfl⟩
 ·have HE:=Lh (show letterB c = true by rw [HD.out];simp;omega);go_enter Tryz.func165,Tryz.ntmps165;go_wp2;go_ret;rw [HE.out];exact ⟨rfl,rfl⟩
 ·have HE:=Lh (show letterB c = false by rw [HD.out];simp;omega);have f1 : decide (n <= 90) = false:=decide_eq_false (by omega);have f2 : decide (n <= 122) = false:=decide_eq_false (by omega);go_enter Tryz.func165,Tryz.ntmps165;go_wp2;go_ret;rw [HE.out];exact ⟨rfl,rfl⟩
theorem alnum_eq (c : UInt8) : Tt.alnum c = (digitB c || letterB c):=by unfold Tt.alnum digitB letterB;rw [Bool.or_assoc]
def codeFrom (l : List UInt8) (k : Nat) : Bool:=if k = 0 then (match l with | [] => true | c :: r => Tt.alnum c && Tt.codeTail r) else Tt.codeTail (l.drop k)
theorem codeFrom_end (l : List UInt8) (k : Nat) (h : l.length <= k) : codeFrom l k = true:=by
 unfold codeFrom;split
 ·rename_i hk
  subst hk;cases l with
  | nil => rfl
  | cons a t => simp at h
 ·rw [List.drop_eq_nil_of_le h];rfl
theorem codeFrom_step (l : List UInt8) (k : Nat) (c : UInt8) (h : l[k]? = some c) : codeFrom l k = ((Tt.alnum c || (decide (0 < k) && Tt.sign c)) && codeFrom l (k + 1)):=by
 have hd:=drop_cons l k c h;unfold codeFrom;rw [if_neg (show ¬ k + 1 = 0 by omega)];by_cases hk : k = 0
 ·subst hk;rw [if_pos rfl];cases l with
  | nil => simp at h
  | cons a t => simp at h;subst h;simp
 ·rw [if_neg hk,hd];have : decide (0 < k) = true:=decide_eq_true (by omega);rw [this];simp [Tt.codeTail]
theorem code_eq (l : List UInt8) : Tt.code l = (decide (1 <= l.length) && decide (l.length <= 16) && codeFrom l 0):=by
 cases l with
 | nil => rfl
 | cons c r => simp [Tt.code,codeFrom,Bool.and_assoc]
theorem ret_bool {a b : Bool} (h : a = b) : Ending.returned (.bool a) = .returned (.bool b):=by rw [h]
set_option maxRecDepth 100000 in
theorem code_any (s : ByteArray) (w : World) : Calls Tryz.prog 94 #[.string s] w fun e w' => e = .returned (.bool (Tt.code s.data.toList)) /\ w' = w:=by
  have HL:=Lh (Lib.size_eq s);by_cases h1 : 1 <= s.size /\ s.size <= 16
  · obtain ⟨h1,h2⟩:=h1;have HC:=Lh (show Tt.code s.data.toList = codeFrom s.data.toList 0 by
      rw [code_eq,<- HL.out,decide_eq_true h1,decide_eq_true h2];rfl)
    have q1 : decide ((s.size : Int) < 1) = false:=decide_eq_false (by omega);have q2 : decide ((16 : Int) < (s.size : Int)) = false:=decide_eq_false (by omega);go_enter Tryz.func94,Tryz.ntmps94;go_wp2_with fail;go_loop [15] (fun i => ∃ k : Nat,k <= s.size /\ i = .int .i64 k /\ Hid (codeFrom s.data.toList 0 = codeFrom s.data.toList k)) (fun i => s.size - (intOf i).toNat)
    case atStart => exact ⟨0,Nat.zero_le _,rfl,rfl⟩
    case round =>
      obtain ⟨k,hk,rfl,HK⟩:=hrel;by_cases hlt : k < s.size
      · obtain ⟨c,hx⟩ : ∃ c : UInt8,s[k]'hlt = c:=⟨_,rfl⟩
        have hcl:=Lib.data_getElem? s k hlt;rw [hx] at hcl;have HS:=Lh (codeFrom_step _ _ _ hcl);have HA:=Lh (alnum_eq c);have hsg : (¬ ((0 : Int) < (k : Int)) /\ Hid ((decide (0 < k) && Tt.sign c) = false)) ∨ (((0 : Int) < (k : Int)) /\ ((c.toNat : Int) == 95) = true /\ Hid ((decide (0 < k) && Tt.sign c) = true)) ∨
            (((0 : Int) < (k : Int)) /\ ((c.toNat : Int) == 95) = false /\ ((c.toNat : Int) == 45) = true /\ Hid ((decide (0 < k) && Tt.sign c) = true)) ∨
            (((0 : Int) < (k : Int)) /\ ((c.toNat : Int) == 95) = false /\ ((c.toNat : Int) == 45) = false /\ Hid ((decide (0 < k) && Tt.sign c) = false)):=by
          by_cases hk0 : 0 < k
          · have hki : (0 : Int) < (k : Int):=by omega
            by_cases e : c = 95
            · exact .inr (.inl ⟨hki,byte_eq c 95 95 rfl e,by show _ = _;rw [decide_eq_true hk0,e];rfl⟩)
            · by_cases e2 : c = 45
              · exact .inr (.inr (.inl ⟨hki,byte_ne c 95 95 rfl e,byte_eq c 45 45 rfl e2,by show _ = _;rw [decide_eq_true hk0,e2];rfl⟩))
              · refine .inr (.inr (.inr ⟨hki,byte_ne c 95 95 rfl e,byte_ne c 45 45 rfl e2,?_⟩));show _ = _
                unfold Tt.sign;rw [beq_eq_false_iff_ne.2 e,beq_eq_false_iff_ne.2 e2];simp
          · exact .inl ⟨by omega,by show _ = _;rw [decide_eq_false hk0];rfl⟩
        have hdl : (digitB c = true /\ Hid (Tt.alnum c = true)) ∨ (digitB c = false /\ letterB c = true /\ Hid (Tt.alnum c = true)) ∨ (digitB c = false /\ letterB c = false /\ Hid (Tt.alnum c = false)):=by
          cases e1 : digitB c
          · cases e2 : letterB c
            · exact .inr (.inr ⟨rfl,rfl,by show _ = _;rw [HA.out,e1,e2];rfl⟩)
            · exact .inr (.inl ⟨rfl,rfl,by show _ = _;rw [HA.out,e1,e2];rfl⟩)
          · exact .inl ⟨rfl,by show _ = _;rw [HA.out,e1];rfl⟩
        clear hcl HA;rcases hsg with ⟨g1,GS⟩ | ⟨g1,g2,GS⟩ | ⟨g1,g2,g3,GS⟩ | ⟨g1,g2,g3,GS⟩
        all_goals
          rcases hdl with ⟨d1,DS⟩ | ⟨d1,d2,DS⟩ | ⟨d1,d2,DS⟩
          all_goals
            go_wp2_with (first | (go_at_call 164;refine (digit_any _ c rfl _).mono ?_;rintro e w' ⟨rfl,rfl⟩) | (go_at_call 165;refine (letter_any _ c rfl _).mono ?_;rintro e w' ⟨rfl,rfl⟩));first
              | (go_ret
                 exact ⟨ret_bool (by rw [HC.out,HK.out,HS.out,GS.out,DS.out];rfl),rfl⟩)
              | (go_round
                 case rel => exact ⟨k + 1,by omega,by go_num,by show _ = _;rw [HK.out,HS.out,GS.out,DS.out];simp⟩
                 case measure => simp [intOf];omega)
      · go_wp2_with fail;go_ret;exact ⟨ret_bool (by rw [HC.out,HK.out,codeFrom_end _ _ (by rw [<- HL.out];omega)]),rfl⟩
  · have HC:=Lh (show Tt.code s.data.toList = false by
      rw [code_eq,<- HL.out];by_cases e : 1 <= s.size
      · rw [decide_eq_false (show ¬ s.size <= 16 by omega)];simp
      · rw [decide_eq_false e];rfl)
    by_cases e : 1 <= s.size
    · have q1 : decide ((s.size : Int) < 1) = false:=decide_eq_false (by omega);have q2 : decide ((16 : Int) < (s.size : Int)) = true:=decide_eq_true (by omega);clear h1;go_enter Tryz.func94,Tryz.ntmps94;go_wp2_with fail;go_ret;exact ⟨ret_bool (by rw [HC.out]),rfl⟩
    · have q1 : decide ((s.size : Int) < 1) = true:=decide_eq_true (by omega);clear h1;go_enter Tryz.func94,Tryz.ntmps94;go_wp2_with fail;go_ret;exact ⟨ret_bool (by rw [HC.out]),rfl⟩
end Go.Proofs.YtageielcdebjlaaGreatDoor
