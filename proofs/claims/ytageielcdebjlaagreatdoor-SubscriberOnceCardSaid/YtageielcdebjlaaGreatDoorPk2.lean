/- Series of days: contracts of the small functions of calendar and recurrence, and of their references. recurrence.Valid and its reference: their contracts: each gives the error of the series. timetableref39.Valid: its contract: it gives the error of the series. feed.Fold: its contract. The generators' Text: some text of the given characters. timetableref02.SameStrings: its contract; slices of strings in memory. strings.IndexAny and ContainsAny at the two bytes of a line's end, for every string. strings.IndexRune at a rune that is no ASCII, in two ASCII bytes. strings.IndexAny and ContainsAny at the two bytes of a line's end, for every string shorter than the model's bound. More plain facts on lines: how pieces are joined one by one, and how long they are. feed.Unfold: its contract. timetableref39.Days: its contract: the days of the series. timetablemore.many: its contract: a number. recurrence.regulars: the iterator over the regular days of a series; slices.Clone and Contains at whole numbers. DERIVED: THE SHELF's CONTRACTS AT THIS DUMP, IN PLAIN WORDS (tools/lay-plain.mjs out of 'TryzSort.lean', which tools/lay-shelf.mjs wrote): THE SAME DECLARATIONS UNDER THE SAME NAMES: 'import', 'namespace', 'open', 'def', 'theorem' AND NOTHING ELSE: no command of the shelf's: FOR A HAND-IN. Each laying: the table of numbers ('.._ren') and one theorem, a field a fact of the dump's own or the kernel's comparison; each contract: ONE APPLICATION. recurrence.Days: its contract. -/
import Derived.Test.YtageielcdebjlaaGreatDoorPk1
import Derived.Below
import Derived.Laws.BitsLemmas
import Derived.Outline
import Derived.Lib.Builder
import Derived.StillTailTactics
import Derived.WalkSpells
import Derived.Laws.Runes
import Derived.Laws.RangeAny
import Derived.Lib.OthersKept
import Derived.Deep.LoopGhost
import Derived.WalkMore
import Derived.RangeFuncNested
import Derived.RangeFuncBound
import Derived.RangeFuncCalls
import Derived.RangeFuncLeaves
import Derived.RangeFuncBox
import Derived.Shelf.Abstract
import Derived.Shelf.RegionOpen
import Derived.WalkKit
import Derived.OwnWalkIn
import Derived.TacticsInMore
import Derived.LoopNIn
import Derived.LoopIn
import Derived.Maps.AppendAt
import Derived.Shelf.Sort.Plain
import Derived.Shelf.Slices.In.SortNone
import Derived.Test.YtageielcdebjlaaGreatDoorProg
import Derived.Sort.OwnSortedInts
set_option maxRecDepth 100000
set_option maxHeartbeats 40000000
-- SerW
namespace Go.Proofs.YtageielcdebjlaaGreatDoor
open Go.RowKit
theorem isD192 (n : Int) (w : World) : Calls Tryz.prog 192 #[.int .i64 n] w fun e w' => e = .returned (.bool (Tt.isD n)) /\ w' = w:=by
 have HD:=Lh (show Tt.isD n = (decide (0 <= n) && decide (n <= 36524)) from rfl);go_enter Tryz.func192,Tryz.ntmps192;go_wp2_with fail
 all_goals
  go_ret;exact ⟨ret_bool (by rw [HD.out];simp;omega),rfl⟩
theorem isD206 (n : Int) (w : World) : Calls Tryz.prog 206 #[.int .i64 n] w fun e w' => e = .returned (.bool (Tt.isD n)) /\ w' = w:=by
 have HD:=Lh (show Tt.isD n = (decide (0 <= n) && decide (n <= 36524)) from rfl);go_enter Tryz.func206,Tryz.ntmps206;go_wp2_with fail
 all_goals
  go_ret;exact ⟨ret_bool (by rw [HD.out];simp;omega),rfl⟩
theorem wkd191 (n : Int) (w : World) (h : Tt.isD n = true) : Calls Tryz.prog 191 #[.int .i64 n] w fun e w' => e = .returned (.int .i64 (Tt.wk n)) /\ w' = w:=by
 have hb:=(Tt.isD_iff n).1 h;have H:=Lh h;clear h;go_enter Tryz.func191,Tryz.ntmps191;go_wp2_with (go_at_call 192;refine (isD192 _ _).mono ?_;rintro e w' ⟨rfl,rfl⟩;rw [H.out]);go_ret;exact ⟨rfl,rfl⟩
theorem wkd191_not (n : Int) (w : World) (h : Tt.isD n = false) : Calls Tryz.prog 191 #[.int .i64 n] w fun e w' => e = .returned (.int .i64 (-1)) /\ w' = w:=by
 have H:=Lh h;clear h;go_enter Tryz.func191,Tryz.ntmps191;go_wp2_with (go_at_call 192;refine (isD192 _ _).mono ?_;rintro e w' ⟨rfl,rfl⟩;rw [H.out]);go_ret;exact ⟨rfl,rfl⟩
theorem and_one (x : Int) (h0 : 0 <= x) (h1 : x < 4611686018427387904) : bits .and .i64 x 1 = x % 2:=by
 have:=bits_mask .i64 62 (by decide) (fun n h0 h1 => by rw [IntKind.wrap_i64];omega) 1 (by decide) x h0 (by simpa using h1);simpa using this
theorem shr_bd (m k : Int) (h0 : 0 <= m) (h1 : m < 4611686018427387904) : 0 <= m / 2 ^ k.toNat /\ m / 2 ^ k.toNat < 4611686018427387904:=by
 have hp : (0 : Int) < 2 ^ k.toNat:=Int.pow_pos (by decide);refine ⟨Int.ediv_nonneg h0 (by omega),?_⟩;have:=Int.ediv_le_self (2 ^ k.toNat) h0;omega
theorem bit_and (m k : Int) (h0 : 0 <= m) (h1 : m < 4611686018427387904) : bits .and .i64 (m / 2 ^ k.toNat) 1 = m / 2 ^ k.toNat % 2:=by
 obtain ⟨a,b⟩:=shr_bd m k h0 h1;exact and_one _ a b
theorem bit_not (m k : Int) (h0 : 0 <= m) (h1 : m < 4611686018427387904) : (bits .and .i64 (m / 2 ^ k.toNat) 1 == 0) = !Tt.bit m k:=by
 rw [bit_and m k h0 h1];unfold Tt.bit;rcases (show m / 2 ^ k.toNat % 2 = 0 ∨ m / 2 ^ k.toNat % 2 = 1 by omega) with e | e
 ·rw [e];rfl
 ·rw [e];rfl
theorem below_then {w w1 w2 : World} (h : Below w.heap.size w w1) (k : Below w1.heap.size w1 w2) : Below w.heap.size w w2:=h.trans (k.mono h.size)
theorem below_drew {w w1 : World} {B q : Nat} (h : Below B w w1) : Below B w (w1.drewN q):=h.trans ⟨rfl,rfl,rfl,Nat.le_refl _,fun _ _ => rfl⟩
theorem below_drw {w w1 : World} {B : Nat} (h : Below B w w1) : Below B w w1.drew:=h.trans ⟨rfl,rfl,rfl,Nat.le_refl _,fun _ _ => rfl⟩
theorem redrew (w : World) (n : Nat) : ∃ w2 : World,w2 = w.drewN n /\ (∀ B : Nat,Below B w w2) /\ (∀ p : Addr,w2.cell? p = w.cell? p) /\ ∀ b : Nat,w2.heap[b]? = w.heap[b]? :=
 ⟨_,rfl,fun _ => ⟨rfl,rfl,rfl,Nat.le_refl _,fun _ _ => rfl⟩,fun _ => World.cell?_of_block (w:=w) rfl,fun _ => rfl⟩
theorem below_box (w : World) (o : Obj) : Below w.heap.size w (w.alloc o):=(Below.refl _ w).alloc (Nat.le_refl _) _
theorem counts280 (f l e m d : Int) (x y : Value) (w : World) (hf : Tt.isD f = true) (hd : Tt.isD d = true) (hfd : f <= d) (he0 : 1 <= e) (he1 : e <= 4) (ao ao' : Option Addr) (n n' c c' : Nat) (hx : x = .slice ao n c) (hy : y = .slice ao' n' c') :
  Calls Tryz.prog 280 #[.agg #[.int .i64 f,.int .i64 l,.int .i64 e,.int .i64 m,x,y],.int .i64 d] w fun e' w' => e' = .returned (.bool (Tt.cnt f e d)) /\ Below w.heap.size w w':=by
 have hb:=(Tt.isD_iff d).1 hd;have hb2:=(Tt.isD_iff f).1 hf;have hw:=Tt.wk_bd d;have hw2:=Tt.wk_bd f;have hm:=Tt.monday_le f d hfd;have H:=Lh hd;have H2:=Lh hf;have HC:=Lh (show Tt.cnt f e d = decide (((d - Tt.wk d) - (f - Tt.wk f)) / 7 % e = 0) from rfl);clear hd hf;subst hx hy;go_enter Tryz.func280,Tryz.ntmps280;go_wp2_with (go_at_call 191;refine (wkd191 _ _ H.out).mono ?_;rintro e w' ⟨rfl,rfl⟩);go_quiet ((go_at_call 191;exact Calls.quiet_of_same (wkd191 _ _ H2.out)))
 go_wp2_with fail;go_ret;exact ⟨ret_bool (by rw [HC.out];rfl),below_drew (below_box _ _)⟩
theorem regular220 (s : Tt.Ser) (d : Int) (w : World) (hf : Tt.isD s.first = true) (hd : Tt.isD d = true) (h1 : s.first <= d) (h2 : d <= s.last) (he0 : 1 <= s.every) (he1 : s.every <= 4) (hw0 : 0 <= s.wd) (hw1 : s.wd <= 127) (ao ao' : Option Addr) (n n' c c' : Nat) :
  Calls Tryz.prog 220 #[.agg #[.int .i64 s.first,.int .i64 s.last,.int .i64 s.every,.int .i64 s.wd,.slice ao n c,.slice ao' n' c'],.int .i64 d] w fun e' w' => e' = .returned (.bool (Tt.regB s d)) /\ Below w.heap.size w w':=by
 have hb:=(Tt.isD_iff d).1 hd;have hw:=Tt.wk_bd d;have H:=Lh hd;have H2:=Lh hf;obtain ⟨f,l,e,m,ex,xt⟩:=s;simp only at *;clear hd hf;have d1 : decide (d < f) = false:=decide_eq_false (by omega);have d2 : decide (l < d) = false:=decide_eq_false (by omega);have HB:=Lh (bit_not m (Tt.wk d) hw0 (by omega));have HR:=Lh (show Tt.regB ⟨f,l,e,m,ex,xt⟩ d = (Tt.bit m (Tt.wk d) && Tt.cnt f e d) by
  unfold Tt.regB;simp only;rw [decide_eq_true h1,decide_eq_true h2];rfl)
 go_enter Tryz.func220,Tryz.ntmps220;go_wp2_with fail;go_quiet ((go_at_call 191;exact Calls.quiet_of_same (wkd191 _ _ H.out)))
 rw [HB.out];cases hb1 : Tt.bit m (Tt.wk d)
 ·go_wp2_with fail;go_ret;exact ⟨ret_bool (by rw [HR.out,hb1];rfl),below_drew (below_box _ _)⟩
 ·go_wp2_with fail;refine (counts280 _ _ _ _ _ _ _ _ H2.out H.out h1 he0 he1 _ _ _ _ _ _ rfl rfl).mono ?_;rintro e w1 ⟨rfl,hb2⟩;go_wp2_with fail;go_ret;exact ⟨ret_bool (by rw [HR.out,hb1];rfl),below_then (below_drew (below_box _ _)) hb2⟩
theorem regular220_out (s : Tt.Ser) (d : Int) (w : World) (h1 : d < s.first ∨ s.last < d) (ao ao' : Option Addr) (n n' c c' : Nat) :
  Calls Tryz.prog 220 #[.agg #[.int .i64 s.first,.int .i64 s.last,.int .i64 s.every,.int .i64 s.wd,.slice ao n c,.slice ao' n' c'],.int .i64 d] w fun e' w' => e' = .returned (.bool (Tt.regB s d)) /\ Below w.heap.size w w':=by
 obtain ⟨f,l,e,m,ex,xt⟩:=s;simp only at *;have HR:=Lh (show Tt.regB ⟨f,l,e,m,ex,xt⟩ d = false by
  unfold Tt.regB;simp only;rcases h1 with h | h
  ·rw [decide_eq_false (by omega)];rfl
  ·rw [decide_eq_false (show ¬ d <= l by omega)];simp)
 by_cases h2 : d < f
 ·have d1 : decide (d < f) = true:=decide_eq_true h2;have d3 : decide (f <= d) = false:=decide_eq_false (by omega);clear h1;go_enter Tryz.func220,Tryz.ntmps220;go_wp2_with fail;go_quiet (fail);go_wp2_with fail;go_ret;exact ⟨ret_bool (by rw [HR.out]),below_drew (below_box _ _)⟩
 ·have d1 : decide (d < f) = false:=decide_eq_false h2;have d3 : decide (f <= d) = true:=decide_eq_true (by omega);have d2 : decide (l < d) = true:=decide_eq_true (by omega);have d4 : decide (d <= l) = false:=decide_eq_false (by omega);clear h1;go_enter Tryz.func220,Tryz.ntmps220;go_wp2_with fail;go_quiet (fail);go_wp2_with fail;go_ret;exact ⟨ret_bool (by rw [HR.out]),below_drew (below_box _ _)⟩
theorem regular220_any (s : Tt.Ser) (d : Int) (w : World) (hf : Tt.isD s.first = true) (hl : Tt.isD s.last = true) (he0 : 1 <= s.every) (he1 : s.every <= 4) (hw0 : 0 <= s.wd) (hw1 : s.wd <= 127) (ao ao' : Option Addr) (n n' c c' : Nat) :
  Calls Tryz.prog 220 #[.agg #[.int .i64 s.first,.int .i64 s.last,.int .i64 s.every,.int .i64 s.wd,.slice ao n c,.slice ao' n' c'],.int .i64 d] w fun e' w' => e' = .returned (.bool (Tt.regB s d)) /\ Below w.heap.size w w':=by
 by_cases h : d < s.first ∨ s.last < d
 ·exact regular220_out s d w h _ _ _ _ _ _
 ·refine regular220 s d w hf ?_ (by omega) (by omega) he0 he1 hw0 hw1 _ _ _ _ _ _;rw [Tt.isD_iff] at *;omega
end Go.Proofs.YtageielcdebjlaaGreatDoor
-- SerV
namespace Go.Proofs.YtageielcdebjlaaGreatDoor
open Go.RowKit
def Ints (B : Nat) (w : World) (ao : Option Addr) (xs : List Int) : Prop:=∀ (j : Nat) (x : Int),xs[j]? = some x -> ∃ a,ao = some a /\ a.block < B /\ w.cell? (a.add j) = some (.int .i64 x)
theorem Ints.below {B : Nat} {w w' : World} {ao : Option Addr} {xs : List Int} (h : Ints B w ao xs) (hw : Below B w w') : Ints B w' ao xs:=fun j x hx => by
 obtain ⟨a,ha,hlt,hc⟩:=h j x hx;exact ⟨a,ha,hlt,(hw.cell (p:=a.add j) (by rw [addr_add_block];exact hlt)).trans hc⟩
theorem Ints.mono {B B' : Nat} {w : World} {ao : Option Addr} {xs : List Int} (h : Ints B w ao xs) (hB : B <= B') : Ints B' w ao xs:=fun j x hx => by
 obtain ⟨a,ha,hlt,hc⟩:=h j x hx;exact ⟨a,ha,by omega,hc⟩
def serVal (s : Tt.Ser) (v v' : Value) : Value:=.agg #[.int .i64 s.first,.int .i64 s.last,.int .i64 s.every,.int .i64 s.wd,v,v']
def SerAt (b : Nat) (s : Tt.Ser) (v v' : Value) (w : World) : Prop:=w.heap[b]? = some (.cells #[.int .i64 s.first,.int .i64 s.last,.int .i64 s.every,.int .i64 s.wd,v,v'] 80 (0,0))
theorem SerAt.lt {b : Nat} {s : Tt.Ser} {v v' : Value} {w : World} (h : SerAt b s v v' w) : b < w.heap.size:=(Array.getElem?_eq_some_iff.1 h).1
theorem SerAt.cells {b : Nat} {s : Tt.Ser} {v v' : Value} {w : World} (h : SerAt b s v v' w) :
  w.cell? ⟨b,0,none⟩ = some (.int .i64 s.first) /\ w.cell? ⟨b,1,none⟩ = some (.int .i64 s.last) /\ w.cell? ⟨b,2,none⟩ = some (.int .i64 s.every) /\ w.cell? ⟨b,3,none⟩ = some (.int .i64 s.wd) /\ w.cell? ⟨b,4,none⟩ = some v /\ w.cell? ⟨b,5,none⟩ = some v':=by
 refine ⟨?_,?_,?_,?_,?_,?_⟩ <;> (rw [Lib.cell_of_heap h];rfl)
theorem SerAt.block {b : Nat} {s : Tt.Ser} {v v' : Value} {w w' : World} (h : SerAt b s v v' w) (hw : w'.heap[b]? = w.heap[b]?) : SerAt b s v v' w':=hw.trans h
theorem valid145_head (s : Tt.Ser) (w : World) (hh : Tt.headV s ≠ 0) (hn : s.ex.length <= 4611686018427387903) (hn2 : s.xt.length <= 4611686018427387903) (ao ao' : Option Addr) (c c' : Nat) :
  Calls Tryz.prog 145 #[serVal s (.slice ao s.ex.length c) (.slice ao' s.xt.length c')] w fun e w' => e = .returned (.int .i64 (Tt.headV s)) /\ Below w.heap.size w w':=by
 have HH:=Lh hh;unfold serVal;obtain ⟨f,l,e,m,ex,xt⟩:=s;simp only at *;clear hh;cases hf : Tt.isD f
 ·have HE:=Lh (show Tt.headV ⟨f,l,e,m,ex,xt⟩ = 13 by unfold Tt.headV;simp only [hf];rfl);have HF:=Lh hf;clear hf;go_enter Tryz.func145,Tryz.ntmps145;go_wp2_with (go_at_call 206;refine (isD206 _ _).mono ?_;rintro e w' ⟨rfl,rfl⟩;try rw [HF.out]);go_ret;exact ⟨ret_int HE.out.symm,below_box _ _⟩
 ·cases hl : Tt.isD l
  ·have HE:=Lh (show Tt.headV ⟨f,l,e,m,ex,xt⟩ = 13 by unfold Tt.headV;simp only [hf,hl];rfl);have HF:=Lh hf;have HL:=Lh hl;clear hf hl;go_enter Tryz.func145,Tryz.ntmps145;go_wp2_with (go_at_call 206;refine (isD206 _ _).mono ?_;rintro e w' ⟨rfl,rfl⟩;first | rw [HF.out] | rw [HL.out])
   all_goals
    go_ret;exact ⟨ret_int HE.out.symm,below_box _ _⟩
  ·have hfb:=(Tt.isD_iff f).1 hf;have hlb:=(Tt.isD_iff l).1 hl;have HE:=Lh (show Tt.headV ⟨f,l,e,m,ex,xt⟩ = (if l < f ∨ f + 140 < l then 3 else if e < 1 ∨ 4 < e ∨ m < 0 ∨ 127 < m then 3 else if 140 < (ex.length : Int) + xt.length then 2 else 0) by unfold Tt.headV;simp only [hf,hl];rfl);have HF:=Lh hf;have HL:=Lh hl;clear hf hl;go_enter Tryz.func145,Tryz.ntmps145;go_wp2_with (go_at_call 206;refine (isD206 _ _).mono ?_;rintro e w' ⟨rfl,rfl⟩;first | rw [HF.out] | rw [HL.out])
   all_goals first
    | (go_ret;exact ⟨ret_int (by rw [HE.out];(repeat' split) <;> omega),below_box _ _⟩)
    | (refine absurd ?_ HH.out;rw [HE.out];(repeat' split) <;> omega)
theorem valid145_body (s : Tt.Ser) (B : Nat) (w : World) (hh : Tt.Head s) (ao ao' : Option Addr) (c c' : Nat) (hB : B <= w.heap.size) (hI : Ints B w ao s.ex) (hI' : Ints B w ao' s.xt) :
  Calls Tryz.prog 145 #[serVal s (.slice ao s.ex.length c) (.slice ao' s.xt.length c')] w fun e w' => e = .returned (.int .i64 (Tt.serV s)) /\ Below w.heap.size w w':=by
 have hf : Tt.isD s.first = true:=(Tt.isD_iff _).2 ⟨hh.f0,hh.f1⟩;have hl : Tt.isD s.last = true:=(Tt.isD_iff _).2 ⟨hh.l0,hh.l1⟩;have HF:=Lh hf;have HL:=Lh hl;have HH:=Lh hh;have HI:=Lh hI;have HI':=Lh hI';have R:=fun d W => regular220_any s d W hf hl hh.e0 hh.e1 hh.w0 hh.w1
 have HR:=Lh R;obtain ⟨a1,a2,a3,a4,a5,a6,a7,a8,a9,a10,a11⟩:=hh;have hsum : IntKind.i64.wrap ((s.ex.length : Int) + s.xt.length) = (s.ex.length : Int) + s.xt.length:=by rw [IntKind.wrap_i64];omega
 have HS:=Lh hsum;have S0 : SerAt w.heap.size s (.slice ao s.ex.length c) (.slice ao' s.xt.length c') (w.alloc (.cells #[.int .i64 s.first,.int .i64 s.last,.int .i64 s.every,.int .i64 s.wd,.slice ao s.ex.length c,.slice ao' s.xt.length c'] 80)):=heap_alloc_new w _;have HS0:=Lh S0;unfold serVal;clear hf hl hI hI' R hsum S0;go_enter Tryz.func145,Tryz.ntmps145;go_wp2_with (go_at_call 206;refine (isD206 _ _).mono ?_;rintro e w' ⟨rfl,rfl⟩;first | rw [HF.out] | rw [HL.out]);go_loopw [63] (fun iv wr => ∃ k : Nat,iv = .int .i64 k /\ k <= s.ex.length /\ Below w.heap.size w wr /\ Hid (SerAt w.heap.size s (.slice ao s.ex.length c) (.slice ao' s.xt.length c') wr) /\ Hid (Tt.listV 12 (Tt.regB s) none s.ex = Tt.listF 12 (Tt.regB s) s.ex k)) (fun iv _ => s.ex.length - (intOf iv).toNat)
 case atStart => exact ⟨0,rfl,Nat.zero_le _,below_box _ _,HS0.out,rfl⟩
 case round =>
  obtain ⟨k,rfl,hk,hbe,HA,HX⟩:=hrel;obtain ⟨e0,e1,e2,e3,e4,e5⟩:=HA.out.cells;have hsz:=HA.out.lt;by_cases hlt : k < s.ex.length
  ·obtain ⟨d,hd⟩ : ∃ d,s.ex[k]? = some d:=⟨_,List.getElem?_eq_getElem hlt⟩
   obtain ⟨a,ha,hlta,hca⟩:=HI.out k d hd;subst ha;have hc:=(hbe.cell (p:=a.add k) (by rw [addr_add_block];omega)).trans hca;clear hca;have HD:=Lh hd;have hki : (k : Int) < (s.ex.length : Int):=by omega
   cases k with
   | zero =>
    rw [Addr.add_zero'] at hc;have HLT:=Lh (show ∀ j q,0 = j + 1 -> s.ex[j]? = some q -> q < d from fun j q h => by omega);clear hd;go_wp2_with fail;refine (HR.out d _ _ _ _ _ _ _).mono ?_;rintro e w1 ⟨rfl,hb1⟩;have hbe1:=below_then hbe hb1;have HA1:=Lh (HA.out.block (hb1.block _ hsz));cases hr : Tt.regB s d
    ·have HE:=Lh (Tt.serV_ex s HH.out 0 12 HX.out (Tt.listF_bad 12 _ _ 0 d HD.out HLT.out hr) (by decide));clear hr;go_wp2_with fail;go_ret;exact ⟨ret_int HE.out.symm,hbe1⟩
    ·have HE:=Lh (HX.out.trans (Tt.listF_step 12 _ _ 0 d HD.out HLT.out hr));clear hr;go_wp2_with fail;go_roundw
     case rel => exact ⟨0 + 1,by go_num,by omega,hbe1,HA1.out,HE.out⟩
     case measure => simp [intOf];omega
   | succ j =>
    obtain ⟨q,hq⟩ : ∃ q,s.ex[j]? = some q:=⟨_,List.getElem?_eq_getElem (by omega)⟩
    obtain ⟨a',ha',_,hca'⟩:=HI.out j q hq;cases ha';have hc':=(hbe.cell (p:=a.add j) (by rw [addr_add_block];omega)).trans hca';rw [Addr.add_succ'] at hc;clear hca';by_cases hdq : d <= q
    ·have HE:=Lh (Tt.serV_ex s HH.out (j + 1) 63 HX.out (Tt.listF_order 12 _ _ j d q hd hq hdq) (by decide));clear hd hq;go_wp2_with fail;go_ret;exact ⟨ret_int HE.out.symm,hbe⟩
    ·have HLT:=Lh (show ∀ j' q',j + 1 = j' + 1 -> s.ex[j']? = some q' -> q' < d from fun j' q' h hq' => by
      obtain rfl : j = j':=by omega
      rw [hq] at hq';cases hq';omega)
     clear hd hq;go_wp2_with fail;refine (HR.out d _ _ _ _ _ _ _).mono ?_;rintro e w1 ⟨rfl,hb1⟩;have hbe1:=below_then hbe hb1;have HA1:=Lh (HA.out.block (hb1.block _ hsz));cases hr : Tt.regB s d
     ·have HE:=Lh (Tt.serV_ex s HH.out (j + 1) 12 HX.out (Tt.listF_bad 12 _ _ (j + 1) d HD.out HLT.out hr) (by decide));clear hr;go_wp2_with fail;go_ret;exact ⟨ret_int HE.out.symm,hbe1⟩
     ·have HE:=Lh (HX.out.trans (Tt.listF_step 12 _ _ (j + 1) d HD.out HLT.out hr));clear hr;go_wp2_with fail;go_roundw
      case rel => exact ⟨(j + 1) + 1,by go_num,by omega,hbe1,HA1.out,HE.out⟩
      case measure => simp [intOf];omega
  ·have hke : k = s.ex.length:=by omega
   have hki : ¬ (k : Int) < (s.ex.length : Int):=by omega
   have HX1:=Lh (HX.out.trans (Tt.listF_end 12 _ _ k (by omega)));clear hke HX;go_wp2_with fail;clear hki hlt hk;go_loopw [88] (fun iv wr => ∃ k : Nat,iv = .int .i64 k /\ k <= s.xt.length /\ Below w.heap.size w wr /\ Hid (SerAt w.heap.size s (.slice ao s.ex.length c) (.slice ao' s.xt.length c') wr) /\ Hid (Tt.listV 11 (Tt.extB s) none s.xt = Tt.listF 11 (Tt.extB s) s.xt k)) (fun iv _ => s.xt.length - (intOf iv).toNat)
   case atStart => exact ⟨0,rfl,Nat.zero_le _,hbe,HA.out,rfl⟩
   case round =>
    clear e0 e1 e2 e3 e4 e5 hsz hbe HA;obtain ⟨k,rfl,hk,hbe,HA,HX⟩:=hrel;obtain ⟨e0,e1,e2,e3,e4,e5⟩:=HA.out.cells;have hsz:=HA.out.lt;by_cases hlt : k < s.xt.length
    ·obtain ⟨d,hd⟩ : ∃ d,s.xt[k]? = some d:=⟨_,List.getElem?_eq_getElem hlt⟩
     obtain ⟨a,ha,hlta,hca⟩:=HI'.out k d hd;subst ha;have hc:=(hbe.cell (p:=a.add k) (by rw [addr_add_block];omega)).trans hca;clear hca;have HD:=Lh hd;have hki : (k : Int) < (s.xt.length : Int):=by omega
     cases k with
     | zero =>
      rw [Addr.add_zero'] at hc;have HLT:=Lh (show ∀ j q,0 = j + 1 -> s.xt[j]? = some q -> q < d from fun j q h => by omega);clear hd;by_cases hdf : d < s.first ∨ s.last < d
      ·have HE:=Lh ((Tt.serV_xt s HH.out 0 HX1.out HX.out).trans (Tt.listF_bad 11 _ _ 0 d HD.out HLT.out (Tt.extB_out s d hdf)));rcases hdf with h | h
       ·go_wp2_with fail;go_ret;exact ⟨ret_int HE.out.symm,hbe⟩
       ·have h' : ¬ d < s.first:=by omega
        go_wp2_with fail;go_ret;exact ⟨ret_int HE.out.symm,hbe⟩
      ·have hd1 : ¬ d < s.first:=by omega
       have hd2 : ¬ s.last < d:=by omega
       have HXB:=Lh (show Tt.extB s d = !Tt.regB s d from Tt.extB_in s d hdf);clear hdf;go_wp2_with fail;refine (HR.out d _ _ _ _ _ _ _).mono ?_;rintro e w1 ⟨rfl,hb1⟩;have hbe1:=below_then hbe hb1;have HA1:=Lh (HA.out.block (hb1.block _ hsz));cases hr : Tt.regB s d
       ·have HE:=Lh (HX.out.trans (Tt.listF_step 11 _ _ 0 d HD.out HLT.out (by rw [HXB.out,hr];rfl)));clear hr;go_wp2_with fail;go_roundw
        case rel => exact ⟨0 + 1,by go_num,by omega,hbe1,HA1.out,HE.out⟩
        case measure => simp [intOf];omega
       ·have HE:=Lh ((Tt.serV_xt s HH.out 0 HX1.out HX.out).trans (Tt.listF_bad 11 _ _ 0 d HD.out HLT.out (by rw [HXB.out,hr];rfl)));clear hr;go_wp2_with fail;go_ret;exact ⟨ret_int HE.out.symm,hbe1⟩
     | succ j =>
      obtain ⟨q,hq⟩ : ∃ q,s.xt[j]? = some q:=⟨_,List.getElem?_eq_getElem (by omega)⟩
      obtain ⟨a',ha',_,hca'⟩:=HI'.out j q hq;cases ha';have hc':=(hbe.cell (p:=a.add j) (by rw [addr_add_block];omega)).trans hca';rw [Addr.add_succ'] at hc;clear hca';by_cases hdq : d <= q
      ·have HE:=Lh ((Tt.serV_xt s HH.out (j + 1) HX1.out HX.out).trans (Tt.listF_order 11 _ _ j d q hd hq hdq));clear hd hq;go_wp2_with fail;go_ret;exact ⟨ret_int HE.out.symm,hbe⟩
      ·have HLT:=Lh (show ∀ j' q',j + 1 = j' + 1 -> s.xt[j']? = some q' -> q' < d from fun j' q' h hq' => by
        obtain rfl : j = j':=by omega
        rw [hq] at hq';cases hq';omega)
       clear hd hq;by_cases hdf : d < s.first ∨ s.last < d
       ·have HE:=Lh ((Tt.serV_xt s HH.out (j + 1) HX1.out HX.out).trans (Tt.listF_bad 11 _ _ (j + 1) d HD.out HLT.out (Tt.extB_out s d hdf)));rcases hdf with h | h
        ·go_wp2_with fail;go_ret;exact ⟨ret_int HE.out.symm,hbe⟩
        ·have h' : ¬ d < s.first:=by omega
         go_wp2_with fail;go_ret;exact ⟨ret_int HE.out.symm,hbe⟩
       ·have hd1 : ¬ d < s.first:=by omega
        have hd2 : ¬ s.last < d:=by omega
        have HXB:=Lh (show Tt.extB s d = !Tt.regB s d from Tt.extB_in s d hdf);clear hdf;go_wp2_with fail;refine (HR.out d _ _ _ _ _ _ _).mono ?_;rintro e w1 ⟨rfl,hb1⟩;have hbe1:=below_then hbe hb1;have HA1:=Lh (HA.out.block (hb1.block _ hsz));cases hr : Tt.regB s d
        ·have HE:=Lh (HX.out.trans (Tt.listF_step 11 _ _ (j + 1) d HD.out HLT.out (by rw [HXB.out,hr];rfl)));clear hr;go_wp2_with fail;go_roundw
         case rel => exact ⟨(j + 1) + 1,by go_num,by omega,hbe1,HA1.out,HE.out⟩
         case measure => simp [intOf];omega
        ·have HE:=Lh ((Tt.serV_xt s HH.out (j + 1) HX1.out HX.out).trans (Tt.listF_bad 11 _ _ (j + 1) d HD.out HLT.out (by rw [HXB.out,hr];rfl)));clear hr;go_wp2_with fail;go_ret;exact ⟨ret_int HE.out.symm,hbe1⟩
    ·have hki : ¬ (k : Int) < (s.xt.length : Int):=by omega
     have HE:=Lh ((Tt.serV_xt s HH.out k HX1.out HX.out).trans (Tt.listF_end 11 _ _ k (by omega)));go_wp2_with fail;go_ret;exact ⟨ret_int HE.out.symm,hbe⟩
end Go.Proofs.YtageielcdebjlaaGreatDoor
-- SerV2
namespace Go.Proofs.YtageielcdebjlaaGreatDoor
open Go.RowKit
end Go.Proofs.YtageielcdebjlaaGreatDoor
-- Fold
namespace Go.Proofs.YtageielcdebjlaaGreatDoor
open Go.RowKit
end Go.Proofs.YtageielcdebjlaaGreatDoor
-- Text
namespace Go.Proofs.YtageielcdebjlaaGreatDoor
open Go.RowKit
theorem Only.but {b B : Nat} {w w' : World} (h : Only b w w') : But b B w w':=⟨h.1,h.2.1,h.2.2.1,by rw [h.2.2.2.1];exact Nat.le_refl _,fun k _ hk => h.2.2.2.2 k hk⟩
theorem string_of_row {w : World} {B : Nat} {v : Value} {l : List UInt8} (h : w.ownsRow B 5 1 v l.length (Lib.byteCells l)) : (convert 76 9 v).run Tryz.prog w = .ok (.string ⟨l.toArray⟩) w:=by
 rcases h.2 with ⟨hv,h0⟩ | ⟨g,cap,cur,hv,r2,r3,r4⟩
 ·have : l = []:=List.eq_nil_of_length_eq_zero h0;subst this;subst hv;exact run_convert_bytes_nil w 76 5 Tryz.underlying76 Tryz.underlying5 0 0 9 Tryz.underlying9
 ·subst hv;refine run_convert_bytes_back w 76 9 5 ⟨g,0,none⟩ cap l Tryz.underlying76 Tryz.underlying5 Tryz.underlying9 (fun j hj => ?_);exact h.cells (g:=g) rfl j _ (by simp [Lib.byteCells,hj])
end Go.Proofs.YtageielcdebjlaaGreatDoor
-- Same
namespace Go.Proofs.YtageielcdebjlaaGreatDoor
open Go.RowKit
def StrAt (w : World) (ao : Option Addr) (xs : List ByteArray) : Prop:=∀ j x,xs[j]? = some x -> ∃ a,ao = some a /\ w.cell? (a.add j) = some (.string x)
theorem str_eq (x y : ByteArray) (h : x = y) : (x.toList == y.toList) = true:=by rw [h];exact beq_self_eq_true _
theorem str_ne (x y : ByteArray) (h : ¬ x = y) : (x.toList == y.toList) = false:=by
 rw [beq_eq_false_iff_ne];intro e;apply h;rw [Lib.toList_data,Lib.toList_data] at e;rw [<- Lib.mk_data x,<- Lib.mk_data y,e]
theorem same_any (ao bo : Option Addr) (n m c d : Nat) (xs ys : List ByteArray) (hn : xs.length = n) (hm : ys.length = m) (hn2 : n <= 9223372036854775807) (hm2 : m <= 9223372036854775807) (w : World) (h1 : StrAt w ao xs) (h2 : StrAt w bo ys) :
  Calls Tryz.prog 43 #[.slice ao n c,.slice bo m d] w fun e w' => e = .returned (.bool (decide (xs = ys))) /\ ∃ q,w' = w.drewN q:=by
 have HN:=Lh hn;have HM:=Lh hm;have H1:=Lh h1;have H2:=Lh h2;clear hn hm h1 h2;by_cases hl : n = m
 ·subst hl;have hq : ((n : Int) != (n : Int)) = false:=by simp
  go_enter Tryz.func43,Tryz.ntmps43;go_wp2_with fail;go_loopw [5] (fun i wr => ∃ k q : Nat,k <= n /\ i = .int .i64 k /\ wr = w.drewN q /\ Hid (∀ j,j < k -> xs[j]? = ys[j]?)) (fun i _ => n - (intOf i).toNat)
  case atStart => exact ⟨0,0,Nat.zero_le _,rfl,rfl,fun j hj => absurd hj (Nat.not_lt_zero _)⟩
  case round =>
   obtain ⟨k,q,hk,rfl,rfl,HE⟩:=hrel;by_cases hlt : k < n
   ·obtain ⟨x,hx⟩ : ∃ x,xs[k]? = some x:=⟨_,List.getElem?_eq_getElem (by rw [HN.out];exact hlt)⟩
    obtain ⟨y,hy⟩ : ∃ y,ys[k]? = some y:=⟨_,List.getElem?_eq_getElem (by rw [HM.out];exact hlt)⟩
    obtain ⟨a,rfl,ha⟩:=H1.out k x hx;obtain ⟨b,rfl,hb⟩:=H2.out k y hy;have HX:=Lh hx;have HY:=Lh hy;have hki : (k : Int) < (n : Int):=by omega
    clear hx hy;by_cases he : x = y
    ·have ht:=str_eq x y he;have HXY:=Lh he;clear he;go_wp2_with fail;go_quiet (fail);go_wp2_with fail;go_roundw
     case rel =>
      refine ⟨k + 1,_,by omega,by go_num,rfl,?_⟩;intro j hj;by_cases e : j = k
      ·rw [e,HX.out,HY.out,HXY.out]
      ·exact HE.out j (by omega)
     case measure => simp [intOf];omega
    ·have ht:=str_ne x y he;have HF:=Lh (show decide (xs = ys) = false from decide_eq_false (fun e => he (by
      have h3:=HX.out;rw [e,HY.out] at h3;exact (Option.some.inj h3).symm)))
     clear he;go_wp2_with fail;go_quiet (fail)
     go_wp2_with fail;go_ret;rw [HF.out];exact ⟨rfl,_,by rw [World.drewN_drewN]⟩
   ·go_wp2_with fail;go_ret;have : xs = ys:=by
     apply List.ext_getElem?
     intro j;by_cases hj : j < k
     ·exact HE.out j hj
     ·rw [List.getElem?_eq_none (by rw [HN.out];omega),List.getElem?_eq_none (by rw [HM.out];omega)]
    rw [decide_eq_true this];exact ⟨rfl,_,rfl⟩
 ·have hq : ((n : Int) != (m : Int)) = true:=by rw [bne_iff_ne];omega
  have HF:=Lh (show decide (xs = ys) = false from decide_eq_false (fun e => hl (by rw [<- HN.out,<- HM.out,e])));clear hl;go_enter Tryz.func43,Tryz.ntmps43;go_wp2_with fail;go_ret;rw [HF.out];exact ⟨rfl,0,rfl⟩
end Go.Proofs.YtageielcdebjlaaGreatDoor
-- CrLf
namespace Go.Proofs.YtageielcdebjlaaGreatDoor
open Go.RowKit
end Go.Proofs.YtageielcdebjlaaGreatDoor
-- CrLf2
namespace Go.Proofs.YtageielcdebjlaaGreatDoor
open Go.RowKit
end Go.Proofs.YtageielcdebjlaaGreatDoor
-- CrLf3
namespace Go.Proofs.YtageielcdebjlaaGreatDoor
open Go.RowKit
end Go.Proofs.YtageielcdebjlaaGreatDoor
-- Bytes2
namespace Tt
end Tt
-- Unfold
namespace Go.Proofs.YtageielcdebjlaaGreatDoor
open Go.RowKit
theorem ownsRow_below {w w' : World} {B : Nat} {e : TypeId} {size : Nat} {v : Value} {n : Nat} {xs : List Value} (h : w.ownsRow B e size v n xs) (ho : Below w.heap.size w w') : w'.ownsRow B e size v n xs:=by
 refine ⟨h.1,?_⟩;rcases h.2 with h1 | ⟨g,cap,cur,r1,r2,r3,r4⟩
 ·exact .inl h1
 ·exact .inr ⟨g,cap,cur,r1,r2,(ho.block g (Array.getElem?_eq_some_iff.1 r3).1).trans r3,r4⟩
theorem cell_one (w : World) (v : Value) (e : TypeId) : ∀ (j : Nat) (u : Value),[v][j]? = some u -> (w.alloc (.cells #[v] e)).cell? ((⟨w.heap.size,0,none⟩ : Addr).add j) = some u:=by
 intro j u hj;match j,hj with
 | 0,hj =>
  simp at hj;subst hj;simp only [Addr.add,if_true];rw [World.cell?_alloc_at _ _ _ _ rfl];rfl
end Go.Proofs.YtageielcdebjlaaGreatDoor
-- SerD
namespace Go.Proofs.YtageielcdebjlaaGreatDoor
open Go.RowKit
theorem Ints.form {B : Nat} {w : World} {ao : Option Addr} {xs : List Int} (h : Ints B w ao xs) (hne : 0 < xs.length) :
  ∃ b o,ao = some ⟨b,o,none⟩ /\ b < B /\ ∀ (j : Nat) (x : Int),xs[j]? = some x -> w.cell? ⟨b,o + j,none⟩ = some (.int .i64 x):=by
 obtain ⟨⟨b,o,sp⟩,ha,hlt,hc⟩:=h 0 _ (List.getElem?_eq_getElem hne);rw [Addr.add_zero'] at hc;have hsp : sp = none:=World.cell?_spot hc;subst hsp;refine ⟨b,o,ha,hlt,fun j x hx => ?_⟩;obtain ⟨a',ha',_,hc'⟩:=h j x hx;rw [ha] at ha';cases ha';rw [Addr.add_lit] at hc';exact hc'
-- DAYS
theorem valid145_any (s : Tt.Ser) (B : Nat) (w : World) (hn : s.ex.length <= 4611686018427387903) (hn2 : s.xt.length <= 4611686018427387903) (ao ao' : Option Addr) (c c' : Nat) (hB : B <= w.heap.size) (hI : Ints B w ao s.ex) (hI' : Ints B w ao' s.xt) :
  Calls Tryz.prog 145 #[serVal s (.slice ao s.ex.length c) (.slice ao' s.xt.length c')] w fun e w' => e = .returned (.int .i64 (Tt.serV s)) /\ Below w.heap.size w w':=by
 by_cases h : Tt.headV s = 0
 ·exact valid145_body s B w ((Tt.headV_zero s).1 h) ao ao' c c' hB hI hI'
 ·rw [Tt.serV_head s h];exact valid145_head s w h hn hn2 ao ao' c c'
theorem filter_snoc {α : Type} (f : α -> Bool) (l : List α) (x : α) : (l ++ [x]).filter f = l.filter f ++ (if f x = true then [x] else []):=by
 rw [List.filter_append];cases h : f x <;> simp [h]
theorem ownsRow_mono {w : World} {B B' : Nat} {e : TypeId} {size : Nat} {v : Value} {n : Nat} {xs : List Value} (h : w.ownsRow B e size v n xs) (hB : B' <= B) : w.ownsRow B' e size v n xs:=by
 refine ⟨h.1,?_⟩;rcases h.2 with h1 | ⟨g,cap,cur,r1,r2,r3⟩
 ·exact .inl h1
 ·exact .inr ⟨g,cap,cur,r1,by omega,r3⟩
theorem infoInt : (Tryz.prog.info? 3).map (fun i => (i.zero,i.size,i.bytes)) = some (some (.int .i64 0),1,8):=by kernel_rfl
end Go.Proofs.YtageielcdebjlaaGreatDoor
-- Many
namespace Go.Proofs.YtageielcdebjlaaGreatDoor
open Go.RowKit
end Go.Proofs.YtageielcdebjlaaGreatDoor
-- Days1
namespace Go.Proofs.YtageielcdebjlaaGreatDoor
open Go.RowKit Go.Shelf
theorem contains148 (B : Nat) (ao : Option Addr) (c : Nat) (xs : List Int) (x : Int) (w : World) (hI : Ints B w ao xs) (hn : xs.length <= 4611686018427387903) :
  Calls Tryz.prog 148 #[.slice ao xs.length c,.int .i64 x] w fun e w' => e = .returned (.bool (decide (x ∈ xs))) /\ w' = w:=by
 rcases Nat.eq_zero_or_pos xs.length with h0 | h0
 ·have : xs = []:=List.eq_nil_of_length_eq_zero h0;subst this;refine (Tryz.slices_Contains_int_empty ao c x w).mono ?_;rintro e w' ⟨rfl,rfl⟩;exact ⟨ret_bool (by simp),rfl⟩
 ·obtain ⟨b,o,rfl,_,hc⟩:=hI.form h0;refine (Tryz.slices_Contains_int b o xs.length c xs x w (Nat.le_refl _) (by omega) (fun j hj => ?_)).mono ?_
  ·rw [hc j _ (List.getElem?_eq_getElem hj)];simp [List.getD_eq_getElem?_getD,hj]
  ·rintro e w' ⟨rfl,rfl⟩;exact ⟨ret_bool (by rw [List.take_length];simp),rfl⟩
theorem clone146 (B : Nat) (ao : Option Addr) (c : Nat) (xs : List Int) (w : World) (hI : Ints B w ao xs) (hn : xs.length <= 1000000) :
  Calls Tryz.prog 146 #[.slice ao xs.length c] w fun e w' => ∃ v',e = .returned v' /\ w'.ownsRow w.heap.size 3 1 v' xs.length (xs.map (Value.int .i64)) /\ Below w.heap.size w w':=by
 rcases Nat.eq_zero_or_pos xs.length with h0 | h0
 ·have : xs = []:=List.eq_nil_of_length_eq_zero h0;subst this;cases ao with
  | none =>
   refine (Tryz.slices_Clone_int_nil _ c w).mono ?_;rintro e w' ⟨rfl,rfl⟩;exact ⟨_,rfl,World.ownsRow_nil _ _ _ _,Below.refl _ _⟩
  | some a =>
   refine (Tryz.slices_Clone_int_zero a c w).mono ?_;rintro e w' ⟨v',rfl,h1,_,h2⟩;exact ⟨_,rfl,h1,h2⟩
 ·obtain ⟨b,o,rfl,_,hc⟩:=hI.form h0;refine (Tryz.slices_Clone_int b o xs.length c xs w (Nat.le_refl _) (by omega) (fun j hj => ?_)).mono ?_
  ·rw [hc j _ (List.getElem?_eq_getElem hj)];simp [List.getD_eq_getElem?_getD,hj]
  ·rintro e w' ⟨v',rfl,h1,_,h2⟩;rw [List.take_length] at h1;exact ⟨_,rfl,h1,h2⟩
theorem regulars147 (s : Tt.Ser) (ao ao' : Option Addr) (n n' c c' : Nat) (w : World) :
  Calls Tryz.prog 147 #[serVal s (.slice ao n c) (.slice ao' n' c')] w fun e w' => e = .returned (.func (.func 221) #[] #[.pointer (some ⟨w.heap.size,0,none⟩)]) /\ w' = w.alloc (.cells #[.int .i64 s.first,.int .i64 s.last,.int .i64 s.every,.int .i64 s.wd,.slice ao n c,.slice ao' n' c'] 80):=by
 unfold serVal;go_enter Tryz.func147,Tryz.ntmps147;go_wp2_with fail;go_ret;exact ⟨rfl,rfl⟩
attribute [local go_sem] Oper.semAt_some
def regTo (s : Tt.Ser) (k : Nat) : List Int:=(Tt.daysFrom s.first k).filter (Tt.regB s)
theorem regTo_succ (s : Tt.Ser) (k : Nat) : regTo s (k + 1) = regTo s k ++ (if Tt.regB s (s.first + k) = true then [s.first + k] else []):=by
 unfold regTo;rw [Tt.daysFrom_snoc,filter_snoc]
theorem regTo_le (s : Tt.Ser) (k : Nat) : (regTo s k).length <= k:=by
 have:=List.length_filter_le (Tt.regB s) (Tt.daysFrom s.first k);rw [Tt.daysFrom_length] at this;exact this
def Kp0 (b : Nat) (W W' : World) : Prop:=W'.heap[b]? = W.heap[b]?
theorem below_grown {w w' : World} (h : Below w.heap.size w w') : w.grownBy w' none:=⟨h.os,h.tape,h.output,h.size,fun k hk _ => h.block k hk⟩
theorem regulars221 (n : Nat) (hn : 1 <= n) (l Bs : Nat) (s : Tt.Ser) (hh : Tt.Head s) (ao ao' : Option Addr) (m m' c c' : Nat) (J Jx : List Int -> World -> Prop)
  (W : World) (hJ : AbidesFrom W.heap.size J)
  (hY : ∀ pre x W,J pre W -> pre.length < 141 -> YieldAt Fence.wide (n - 1) Tryz.prog l #[.int .i64 x] W fun e W' =>
   (e = .returned (.bool true) /\ J (pre ++ [x]) W' /\ Kp0 Bs W W') ∨ (e = .returned (.bool false) /\ Jx (pre ++ [x]) W'))
  (hS : SerAt Bs s (.slice ao m c) (.slice ao' m' c') W) (h0 : J [] W) :
  CallsIn Fence.wide n Tryz.prog 221 #[.func (.yield l) #[] #[],.pointer (some ⟨Bs,0,none⟩)] W fun e W' => (∃ v,e = .returned v) /\
   ((∃ ys,ys = regTo s (s.last - s.first + 1).toNat /\ J ys W') ∨ (∃ pre,True /\ Jx pre W')):=by
 have hf : Tt.isD s.first = true:=(Tt.isD_iff _).2 ⟨hh.f0,hh.f1⟩;have hl : Tt.isD s.last = true:=(Tt.isD_iff _).2 ⟨hh.l0,hh.l1⟩;have R:=fun d W => regular220_any s d W hf hl hh.e0 hh.e1 hh.w0 hh.w1
 have HR:=Lh R;have HY:=Lh hY;have HJ:=Lh hJ;have HS:=Lh hS;obtain ⟨a1,a2,a3,a4,a5,a6,a7,a8,a9,a10,a11⟩:=hh;obtain ⟨e0,e1,e2,e3,e4,e5⟩:=hS.cells;clear hf hl R hY hJ hS;refine callsIn_of_wp Tryz.func221 rfl trivial ?_ rfl;simp only [Tryz.ntmps221,List.size_toArray,List.length_cons,List.length_nil,Nat.reduceAdd,Nat.reduceSub,Array.replicate_succ,Array.replicate_zero,List.push_toArray,List.append_toArray,List.nil_append,List.cons_append];gi_wp2
 clear e0 e1 e2 e3 e4 e5;gi_loopw [3] (fun i wr => ∃ k : Nat,(k : Int) <= s.last - s.first + 1 /\ i = .int .i64 (s.first + k) /\ J (regTo s k) wr /\ Hid (Kp0 Bs W wr))
  (fun i _ => (s.last + 1 - intOf i).toNat)
 case atStart => exact ⟨0,by omega,by go_num,h0,(show Kp0 Bs W W from rfl)⟩
 case round =>
  obtain ⟨k,hk,rfl,hJs,hnx⟩:=hrel;have HA:=Lh (HS.out.block hnx.out);obtain ⟨e0,e1,e2,e3,e4,e5⟩:=HA.out.cells;have hsz:=HA.out.lt;by_cases hlt : s.first + k <= s.last
  ·have hkn : (regTo s k).length < 141:=by have:=regTo_le s k;omega
   have HT:=Lh (regTo_succ s k);gi_wp2_with fail
   refine ⟨trivial,?_⟩;refine (callsIn_wide.2 (HR.out (s.first + k) _ _ _ _ _ _ _)).mono ?_;rintro e w1 ⟨rfl,hb1⟩;have hJ1:=HJ.out _ _ _ none hJs (below_grown hb1) (fun r h => by cases h);have hnx1 : Hid (Kp0 Bs W w1):=(hb1.block _ hsz).trans hnx.out;have HA1:=Lh (HA.out.block (hb1.block _ hsz));clear e0 e1 e2 e3 e4 e5 hnx HA hb1 hsz hJs;obtain ⟨e0,e1,e2,e3,e4,e5⟩:=HA1.out.cells;cases hr : Tt.regB s (s.first + k)
   ·have HT1:=Lh (show regTo s (k + 1) = regTo s k by rw [HT.out,hr];simp);clear hr;gi_wp2_with fail;refine ⟨fun _ h => (by cases h),?_⟩;gi_wp2;go_roundw
    case rel => exact ⟨k + 1,by omega,by go_num,by rw [HT1.out];exact hJ1,hnx1.out⟩
    case measure => simp [intOf];omega
   ·have HT1:=Lh (show regTo s (k + 1) = regTo s k ++ [s.first + k] by rw [HT.out,hr];simp);clear hr;obtain ⟨fn,tmps,assign,body,hy,hRR⟩:=HY.out (regTo s k) (s.first + k) w1 hJ1 hkn;gi_wp2;refine hRR.mono ?_;rintro e W3 (⟨rfl,hJ3,hk3⟩ | ⟨rfl,hJx3⟩)
    ·have HA3:=Lh (HA1.out.block hk3);clear e0 e1 e2 e3 e4 e5 HA1;gi_wp2;go_roundw
     case rel => exact ⟨k + 1,by omega,by go_num,by rw [HT1.out];exact hJ3,(show Kp0 Bs W W3 from Eq.trans hk3 hnx1.out)⟩
     case measure => simp [intOf];omega
    ·gi_wp2
     refine bodyPost_ret (results_none rfl _ _ _) rfl ?_;exact ⟨⟨_,rfl⟩,.inr ⟨_,trivial,hJx3⟩⟩
  ·have hke : k = (s.last - s.first + 1).toNat:=by omega
   gi_wp2
   go_end0
   exact ⟨⟨_,rfl⟩,.inl (by rw [<- hke];exact hJs)⟩
end Go.Proofs.YtageielcdebjlaaGreatDoor
-- Sort
namespace Go.Proofs
open Go.Shelf
def Tryz.lays189_ren : Go.Shelf.Ren:=⟨fun | 189 => 149 | 125 => 158 | 257 => 223 | 128 => 229 | 129 => 230 | 294 => 283 | 295 => 284 | 296 => 285 | 297 => 286 | 298 => 287 | 299 => 288 | 216 => 289 | 300 => 290 | 301 => 291 | 328 => 332 | 329 => 324 | 330 => 325 | 331 => 333 | 332 => 334 | 215 => 320 | 343 => 350 | n => n,fun | 28 => 27 | 3 => 3 | 46 => 185 | 0 => 0 | 51 => 243 | 53 => 245 | 4 => 4 | 183 => 273 | 182 => 272 | 131 => 129 | 5 => 5 | 9 => 9 | 218 => 306 | 222 => 292 | 228 => 327 | 229 => 317 | n => n,fun | n => n⟩
theorem Tryz.lays189 : Go.Proofs.Lays.n189 Tryz.prog Tryz.lays189_ren:={
 mixed:=by kernel_rfl
 f125:=Tryz.func158.trans (congrArg some (by kernel_rfl))
 f128:=Tryz.func229.trans (congrArg some (by kernel_rfl))
 f129:=Tryz.func230.trans (congrArg some (by kernel_rfl))
 f189:=Tryz.func149.trans (congrArg some (by kernel_rfl))
 f215:=Tryz.func320.trans (congrArg some (by kernel_rfl))
 f216:=Tryz.func289.trans (congrArg some (by kernel_rfl))
 f257:=Tryz.func223.trans (congrArg some (by kernel_rfl))
 f294:=Tryz.func283.trans (congrArg some (by kernel_rfl))
 f295:=Tryz.func284.trans (congrArg some (by kernel_rfl))
 f296:=Tryz.func285.trans (congrArg some (by kernel_rfl))
 f297:=Tryz.func286.trans (congrArg some (by kernel_rfl))
 f298:=Tryz.func287.trans (congrArg some (by kernel_rfl))
 f299:=Tryz.func288.trans (congrArg some (by kernel_rfl))
 f300:=Tryz.func290.trans (congrArg some (by kernel_rfl))
 f301:=Tryz.func291.trans (congrArg some (by kernel_rfl))
 f328:=Tryz.func332.trans (congrArg some (by kernel_rfl))
 f329:=Tryz.func324.trans (congrArg some (by kernel_rfl))
 f330:=Tryz.func325.trans (congrArg some (by kernel_rfl))
 f331:=Tryz.func333.trans (congrArg some (by kernel_rfl))
 f332:=Tryz.func334.trans (congrArg some (by kernel_rfl))
 f343:=Tryz.func350.trans (congrArg some (by kernel_rfl))
 t0:=Tryz.underlying0
 a0:=Tryz.isAgg0
 z0:=Tryz.sizeOf0
 v0:=Tryz.zeroValue0
 t3:=Tryz.underlying3
 a3:=Tryz.isAgg3
 z3:=Tryz.sizeOf3
 v3:=Tryz.zeroValue3
 t4:=Tryz.underlying4
 a4:=Tryz.isAgg4
 z4:=Tryz.sizeOf4
 v4:=Tryz.zeroValue4
 t5:=Tryz.underlying5
 a5:=Tryz.isAgg5
 z5:=Tryz.sizeOf5
 v5:=Tryz.zeroValue5
 t9:=Tryz.underlying9
 a9:=Tryz.isAgg9
 z9:=Tryz.sizeOf9
 v9:=Tryz.zeroValue9
 t28:=Tryz.underlying27
 a28:=Tryz.isAgg27
 z28:=Tryz.sizeOf27
 v28:=Tryz.zeroValue27
 t46:=Tryz.underlying185
 a46:=Tryz.isAgg185
 z46:=Tryz.sizeOf185
 v46:=Tryz.zeroValue185
 t51:=Tryz.underlying243
 a51:=Tryz.isAgg243
 z51:=Tryz.sizeOf243
 v51:=Tryz.zeroValue243
 t53:=Tryz.underlying245
 a53:=Tryz.isAgg245
 z53:=Tryz.sizeOf245
 v53:=Tryz.zeroValue245
 t131:=Tryz.underlying129
 a131:=Tryz.isAgg129
 z131:=Tryz.sizeOf129
 v131:=Tryz.zeroValue129
 t182:=Tryz.underlying272
 a182:=Tryz.isAgg272
 z182:=Tryz.sizeOf272
 v182:=Tryz.zeroValue272
 t183:=Tryz.underlying273
 a183:=Tryz.isAgg273
 z183:=Tryz.sizeOf273
 v183:=Tryz.zeroValue273
 t218:=Tryz.underlying306
 a218:=Tryz.isAgg306
 z218:=Tryz.sizeOf306
 v218:=Tryz.zeroValue306
 t222:=Tryz.underlying292
 a222:=Tryz.isAgg292
 z222:=Tryz.sizeOf292
 v222:=Tryz.zeroValue292
 t228:=Tryz.underlying327
 a228:=Tryz.isAgg327
 z228:=Tryz.sizeOf327
 v228:=Tryz.zeroValue327
 t229:=Tryz.underlying317
 a229:=Tryz.isAgg317
 z229:=Tryz.sizeOf317
 v229:=Tryz.zeroValue317 }
open Go.Sort Go.RowKit in
theorem Tryz.slices_Sort_int (blk off cap : Nat) (zs : List Int) (w : World) (hH : Holds (Value.int .i64) w blk off zs.toArray) (hblk : blk < w.heap.size) (hsz : zs.length < 4611686018427387904) :
  Calls Tryz.prog 149 #[.slice (some ⟨blk,off,none⟩) zs.length cap] w fun e w' =>
   e = .returned (.tuple #[]) /\ ∃ n os,w' = grow (putRow (Value.int .i64) (Sort.ahead w n) blk off (zs.mergeSort fun x y => decide (x <= y)).toArray) os:=Any.slices_Sort_int Tryz.lays189 blk off cap zs w hH hblk hsz
open Go.RowKit Go.Sort in
theorem Tryz.slices_Sort_int_none (p : Option Addr) (cap : Nat) (w : World) :
  Calls Tryz.prog 149 #[.slice p 0 cap] w fun e w' => e = .returned (.tuple #[]) /\ w' = w:=Any.slices_Sort_int_none Tryz.lays189 p cap w
end Go.Proofs
-- Days2
namespace Go.Proofs.YtageielcdebjlaaGreatDoor
open Go.RowKit Go.Shelf
theorem sort149 (base : Nat) (v : Value) (zs : List Int) (w : World) (hown : w.ownsRow base 3 1 v zs.length (zs.map (Value.int .i64))) (hn : zs.length <= 1000000) :
  Calls Tryz.prog 149 #[v] w fun e w' => e = .returned (.tuple #[]) /\ w'.ownsRow base 3 1 v zs.length ((zs.mergeSort fun x y => decide (x <= y)).map (Value.int .i64)) /\ w.grownBy w' v.ownBlock:=by
 rcases hown.2 with ⟨rfl,h0⟩ | ⟨g,cap,cur,rfl,hg,hb,hc,hm,hcs,ht⟩
 ·have : zs = []:=List.eq_nil_of_length_eq_zero h0;subst this;refine (Tryz.slices_Sort_int_none none 0 w).mono ?_;rintro e w' ⟨rfl,rfl⟩;exact ⟨rfl,by simpa using World.ownsRow_nil w' base 3 1,⟨rfl,rfl,rfl,Nat.le_refl _,fun _ _ _ => rfl⟩⟩
 ·have hlt : g < w.heap.size:=(Array.getElem?_eq_some_iff.1 hb).1;refine (Tryz.slices_Sort_int g 0 cap zs w (holds_of_blockI hb (by simpa using ht)) hlt (by omega)).mono ?_;rintro e w' ⟨rfl,n,os,rfl⟩;exact ⟨rfl,ownsRow_sortedI (by simp) hg hb hc hm hcs,grownBy_sortedI _⟩
theorem ownsRow_slice {w : World} {B : Nat} {e : TypeId} {k : Nat} {v : Value} {n : Nat} {xs : List Value} (h : w.ownsRow B e k v n xs) : ∃ p m c,v = .slice p m c:=by
 rcases h.2 with ⟨rfl,_⟩ | ⟨g,cap,cur,rfl,_⟩
 ·exact ⟨_,_,_,rfl⟩
 ·exact ⟨_,_,_,rfl⟩
theorem serAt_own {β : Type} (b : Nat) (s : Tt.Ser) (v v' : Value) : Own (fun (_ : β) W => SerAt b s v v' W):=fun _ A B row hs hg hr =>
 (hg.block b hs.lt (fun e => by
  obtain ⟨o,ho,hc⟩:=hr b e.symm;rw [show A.heap[b]? = _ from hs] at ho;cases ho;cases hc)).trans hs
theorem kp_append {W w4 : World} {b B1 : Nat} {s : Tt.Ser} {u u' v v' : Value} {base n : Nat} {xs : List Value} {tmp : Obj} (hS : SerAt b s u u' W) (hrow : W.ownsRow base 3 1 v n xs) (hgrow : (W.alloc tmp).grownBy w4 v.ownBlock) (hne : b ≠ B1) : Kp0 b W (w4.setCell ⟨B1,0,none⟩ v'):=by
 show (w4.setCell ⟨B1,0,none⟩ v').heap[b]? = W.heap[b]?
 rw [Below.heap_setCell _ _ _ _ hne,hgrow.block b (by have:=hS.lt;simp;omega) ?_,Lib.alloc_old W _ b hS.lt];intro e;rcases hrow.2 with ⟨rfl,_⟩ | ⟨g,cap,cur,rfl,_,hgb,_⟩
 ·cases e
 ·simp only [Value.ownBlock,Option.some.injEq] at e;subst e;have:=(show W.heap[b]? = _ from hS).symm.trans hgb;simp at this
theorem def_row {W : World} {D : Nat} {v : Value} {base n : Nat} {xs : List Value} {ds : Option (List Deferred)} (hrow : W.ownsRow base 3 1 v n xs) (hK : W.heap[D]? = some (.deferred ds)) : some D ≠ v.ownBlock:=by
 intro e;rcases hrow.2 with ⟨rfl,_⟩ | ⟨g,cap,cur,rfl,_,hgb,_⟩
 ·cases e
 ·simp only [Value.ownBlock,Option.some.injEq] at e;subst e;rw [hK] at hgb;cases hgb
def gath (s : Tt.Ser) (pre : List Int) : List Int:=s.xt ++ pre.filter fun d => !decide (d ∈ s.ex)
theorem gath_snoc (s : Tt.Ser) (pre : List Int) (d : Int) : gath s (pre ++ [d]) = gath s pre ++ (if (!decide (d ∈ s.ex)) = true then [d] else []):=by
 unfold gath;rw [filter_snoc,List.append_assoc]
theorem gath_le (s : Tt.Ser) (pre : List Int) : (gath s pre).length <= s.xt.length + pre.length:=by
 unfold gath;rw [List.length_append];have:=List.length_filter_le (fun d => !decide (d ∈ s.ex)) pre;omega
theorem gath_all (s : Tt.Ser) : gath s (regTo s (s.last - s.first + 1).toNat) = s.xt ++ (Tt.span s).filter fun d => Tt.regB s d && !decide (d ∈ s.ex):=by
 unfold gath regTo Tt.span;rw [List.filter_filter];congr 2
 funext d
 exact Bool.and_comm _ _
attribute [local go_sem] Oper.semAt_some
theorem days74_ok (s : Tt.Ser) (B : Nat) (w : World) (hv : Tt.serV s = 0) (ao ao' : Option Addr) (c c' : Nat) (hB : B <= w.heap.size) (hI : Ints B w ao s.ex) (hI' : Ints B w ao' s.xt) :
  Calls Tryz.prog 74 #[serVal s (.slice ao s.ex.length c) (.slice ao' s.xt.length c')] w fun e w' => ∃ v,e = .returned v /\ w'.ownsRow w.heap.size 3 1 v (Tt.serDays s).length ((Tt.serDays s).map (Value.int .i64)) /\ Below w.heap.size w w':=by
 obtain ⟨i0,hi,hz0,hz1,hz2⟩:=info_parts infoInt;obtain ⟨hh,_,_⟩:=(Tt.serV_zero s).1 hv;have hn:=hh.n;have S0 : SerAt w.heap.size s (.slice ao s.ex.length c) (.slice ao' s.xt.length c') (w.alloc (.cells #[.int .i64 s.first,.int .i64 s.last,.int .i64 s.every,.int .i64 s.wd,.slice ao s.ex.length c,.slice ao' s.xt.length c'] 80)):=heap_alloc_new w _;have HS0:=Lh S0;have HV:=Lh (valid145_any s B (w.alloc (.cells #[.int .i64 s.first,.int .i64 s.last,.int .i64 s.every,.int .i64 s.wd,.slice ao s.ex.length c,.slice ao' s.xt.length c'] 80)) (by omega) (by omega) ao ao' c c' (by simp;omega) (hI.below ((below_box w _).mono hB)) (hI'.below ((below_box w _).mono hB)));have hBB:=hB;have HI:=Lh hI;have HI':=Lh hI';have HH:=Lh hh;have HVV:=Lh hv;clear hI hI' S0 hh hv;unfold serVal at HV ⊢;refine (callsIn_wide (n:=5)).1 ?_;refine callsIn_of_wp_marks Tryz.func74 rfl trivial ?_ rfl;simp only [Tryz.ntmps74,List.size_toArray,List.length_cons,List.length_nil,Nat.reduceAdd,Nat.reduceSub,Array.replicate_succ,Array.replicate_zero,List.push_toArray,List.append_toArray,List.nil_append,List.cons_append];gi_wp2_with fail
 refine ⟨trivial,?_⟩;refine (callsIn_wide.2 HV.out).mono ?_;rintro e w1 ⟨rfl,hb1⟩;rw [HVV.out];have hbe1:=below_then (below_box w _) hb1;have HA1:=Lh (HS0.out.block (hb1.block _ HS0.out.lt));clear HV hb1;obtain ⟨e0,e1,e2,e3,e4,e5⟩:=HA1.out.cells;have hsz1:=HA1.out.lt;gi_wp2_with fail
 refine ⟨trivial,?_⟩;refine (callsIn_wide.2 (clone146 B ao' c' s.xt w1 (HI'.out.below (hbe1.mono hB)) (by omega))).mono ?_;rintro e w2 ⟨x,rfl,hown2,hb2⟩;obtain ⟨q1,q2,q3,hx⟩:=ownsRow_slice hown2;subst hx;have hbe2:=below_then hbe1 hb2;have HA2:=Lh (HA1.out.block (hb2.block _ hsz1));have hs12:=hb2.size;clear e0 e1 e2 e3 e4 e5;obtain ⟨e0,e1,e2,e3,e4,e5⟩:=HA2.out.cells;have hsz2:=HA2.out.lt;gi_wp2_with fail
 refine ⟨trivial,?_⟩;refine (callsIn_wide.2 (regulars147 s ao ao' s.ex.length s.xt.length c c' _)).mono ?_;rintro e w3 ⟨rfl,hw⟩;rw [hw];clear hw w3;gi_wp2_with fail
 obtain ⟨W0,hW0⟩ : ∃ W0,W0 = ((w2.alloc (.cells #[.slice q1 q2 q3] 27)).alloc (.cells #[.int .i64 s.first,.int .i64 s.last,.int .i64 s.every,.int .i64 s.wd,.slice ao s.ex.length c,.slice ao' s.xt.length c'] 80)):=⟨_,rfl⟩
 obtain ⟨B1,hB1⟩ : ∃ B1,B1 = w2.heap.size:=⟨_,rfl⟩
 have hzq : W0.heap.size = B1 + 2:=by rw [hW0,hB1];simp
 have HZ:=Lh hzq;have bO : Boxed W0 B1 27 (.slice q1 q2 q3):=by rw [hW0,hB1];exact (Boxed.new w2 27 _).alloc _
 have S2 : SerAt (B1 + 1) s (.slice ao s.ex.length c) (.slice ao' s.xt.length c') W0:=by
  rw [hW0,hB1];have:=heap_alloc_new (w2.alloc (.cells #[.slice q1 q2 q3] 27)) (.cells #[.int .i64 s.first,.int .i64 s.last,.int .i64 s.every,.int .i64 s.wd,.slice ao s.ex.length c,.slice ao' s.xt.length c'] 80);simpa [SerAt] using this
 have hbw : Below w1.heap.size w2 W0:=by rw [hW0];exact ((Below.refl _ w2).alloc (by omega) _).alloc (by simp;omega) _
 have hown0 : W0.ownsRow w1.heap.size 3 1 (.slice q1 q2 q3) s.xt.length (s.xt.map (Value.int .i64)):=by rw [hW0];exact (hown2.alloc _).alloc _
 have hbw1:=hb2.trans hbw;have hB1w : w1.heap.size <= B1:=by rw [hB1];exact hs12
 rw [<- hW0,<- hB1];clear hW0 hB1 e0 e1 e2 e3 e4 e5 HA2 hown2 hbw hzq hb2;have hzw : B1 + 2 <= W0.heap.size:=by rw [HZ.out];exact Nat.le_refl _
 refine wpIn_rangeFunc_ownG rfl (by decide) (gf:=221) (lb:=#[.pointer (some ⟨B1 + 1,0,none⟩)]) rfl trivial (enters_of Tryz.func221 (by kernel_rfl) rfl)
  (encs:=fun x : Int => #[Value.int .i64 x]) (Kp:=Kp0 (B1 + 1)) (S:=fun ys => ys = regTo s (s.last - s.first + 1).toNat) (Sp:=fun _ => True) (N:=141) (w0:=W0)
  (fun l J Jx W hW hJ hJx hY h0 => regulars221 4 (by decide) l (B1 + 1) s HH.out ao ao' _ _ c c' J Jx W hJ hY (S2.block (hW.block _ S2.lt)) h0)
  (fun h k => Eq.trans k h) (fun W l o o' hl h _ _ => ?kb) (Below.refl _ _) (fun _ => rfl)
  (fun pre W => (∃ v,Boxed W B1 27 v /\ W.ownsRow w1.heap.size 3 1 v (gath s pre).length ((gath s pre).map (Value.int .i64)) /\ True) /\ SerAt (B1 + 1) s (.slice ao s.ex.length c) (.slice ao' s.xt.length c') W /\ Below w1.heap.size w1 W)
  (fun _ _ _ => False)
  (OwnFrom.and (Own.from (holdsRow_own w1.heap.size B1 27 3 1 (fun pre => (gath s pre).length) (fun pre => (gath s pre).map (Value.int .i64)) (fun _ _ => True)) _) (OwnFrom.and (Own.from (serAt_own _ _ _ _) _) (ownFrom_below (Nat.le_refl _) (by omega))))
  (fun _ _ _ _ _ hs _ _ => hs)
  ⟨⟨_,bO,by simpa [gath] using hown0,trivial⟩,S2,?be0⟩
  (fun x => { tmps:=#[.agg #[.int .i64 s.first,.int .i64 s.last,.int .i64 s.every,.int .i64 s.wd,.slice ao s.ex.length c,.slice ao' s.xt.length c'],.pointer (some ⟨w.heap.size,0,none⟩),.slice none 0 0,.pointer (some ⟨B1,0,none⟩),.int .i64 x,.agg #[.int .i64 s.first,.int .i64 s.last,.int .i64 s.every,.int .i64 s.wd,.slice ao s.ex.length c,.slice ao' s.xt.length c'],.int .i64 0,.bool false,.pointer (some ⟨w.heap.size,5,none⟩),.slice ao' s.xt.length c',.slice q1 q2 q3,.agg #[.int .i64 s.first,.int .i64 s.last,.int .i64 s.every,.int .i64 s.wd,.slice ao s.ex.length c,.slice ao' s.xt.length c'],.func (.func 221) #[] #[.pointer (some ⟨B1 + 1,0,none⟩)],.int .i64 x,undef,undef,undef,undef,undef,undef,undef,undef,undef,undef,undef,undef],defers:=[] }) ?assign ?body ?done ?stop
 case kb =>
  exact (grownBy_putObj' W l o').block (B1 + 1) (by have:=(Array.getElem?_eq_some_iff.1 h).1;omega) (by simp;omega)
 case be0 => exact hbw1
 case assign =>
  intro l x W K hK;gi_wp2
  exact hK
 case body =>
  rintro l pre x W ⟨⟨v,hv,hrow,_⟩,S2W,hB⟩ hlt;have S2H:=Lh S2W;clear S2W;have hc:=hv.cell;have HAW:=Lh (HA1.out.block (hB.block _ hsz1));obtain ⟨e0,e1,e2,e3,e4,e5⟩:=HAW.out.cells;have hpl:=gath_le s pre;have HG:=Lh (gath_snoc s pre x);have hbW:=hbe1.trans (hB.mono (by omega));have hWs:=hB.size;gi_wp2_with fail
  refine ⟨trivial,?_⟩;refine (CallsIn.inRound l (callsIn_wide.2 (contains148 B ao c s.ex x W (HI.out.below (hbW.mono hBB)) (by omega)))).mono ?_;rintro e w3 ⟨rfl,hw⟩;rw [hw];clear hw w3;cases hd : decide (x ∈ s.ex)
  ·have HG1:=Lh (show gath s (pre ++ [x]) = gath s pre ++ [x] by rw [HG.out,hd];rfl);clear hd;gi_wp2_with (gi_at_builtin;refine wpListIn_append_own _ rfl _ _ 27 rfl w1.heap.size 3 i0 (.int .i64 0) 1 8 Tryz.underlying27 hi hz0 hz1 hz2 rfl (by decide) _ _ _ rfl (hrow.alloc _) ⟨W.heap.size,0,none⟩ 1 1 [.int .i64 x] rfl rfl (cell_one_new _ _ _) (by simp [Value.oneCell']) (by unfold maxLen;omega) (by omega) (by simp;omega) ?_);intro v' w4 hown' hgrow _;obtain ⟨g',cap',rfl⟩:=ownsRow_succ hown';obtain ⟨hv1,hv2,hr2,hk2,hb2⟩:=hv.appended (by decide) hrow hWs hB1w hown' hgrow;have hc1:=hv1.cell;have hf1:=hv1.frozen;gi_wp2_with fail;exact ⟨hk2.from _,kp_append S2H.out hrow hgrow (by omega),⟨_,hv2,by rw [HG1.out];simpa using hr2,trivial⟩,SerAt.block S2H.out (kp_append S2H.out hrow hgrow (by omega)),hB.trans hb2⟩
  ·have HG1:=Lh (show gath s (pre ++ [x]) = gath s pre by rw [HG.out,hd];simp);clear hd;gi_wp2_with fail;exact ⟨KeepsFrom.refl _ _,rfl,⟨v,hv,by rw [HG1.out];exact hrow,trivial⟩,S2H.out,hB⟩
 case done =>
  rintro D ys W hD hys ⟨⟨v,hv,hrow,_⟩,_,hB⟩ hK;have hc:=hv.cell;have hgl:=gath_le s ys;have hyl : ys.length <= 141:=by rw [hys];have:=regTo_le s (s.last - s.first + 1).toNat;have:=HH.out.lf;omega
  gi_wp2_with fail
  refine ⟨trivial,?_⟩;refine (callsIn_wide.2 (sort149 w1.heap.size v (gath s ys) W hrow (by omega))).mono ?_;rintro e w3 ⟨rfl,hrow3,hg3⟩;have hv3:=hv.kept hg3 (hv.not_row (by decide) hrow);have hc3:=hv3.cell;have hK3 : w3.heap[D]? = some (.deferred (some [])):=(hg3.block D (Array.getElem?_eq_some_iff.1 hK).1 (def_row hrow hK)).trans hK;have hB3 : Below w1.heap.size w1 w3:=hB.grown hg3 hB.size (fun k e => (hrow.lt k e).1);have HS:=Lh (show (gath s ys).mergeSort (fun x y => decide (x <= y)) = Tt.serDays s from by
   refine Tt.serDays_of s HVV.out _ ?_ ?_
   ·have:=List.pairwise_mergeSort (le:=fun x y : Int => decide (x <= y)) (fun a b c h1 h2 => by simp at *;omega) (fun a b => by simp;omega) (gath s ys);exact this.imp (fun h => by simpa using h)
   ·rw [<- gath_all,<- hys];exact List.mergeSort_perm _ _)
  rw [HS.out] at hrow3;have HLEN:=Lh (show (gath s ys).length = (Tt.serDays s).length by rw [<- HS.out];simp);rw [HLEN.out] at hrow3;clear hc;gi_wp2_with fail
  refine ⟨by simp,.inl ⟨_,_,rfl,run_takeDeferred hK3,?_⟩⟩;exact ⟨_,results_tmp rfl _ _ _,v,rfl,ownsRow_mono (ownsRow_putObj hrow3 _ hK3 rfl) (by omega),hbe1.trans ((hB3.mono (by omega)).trans (belowK_b (w:=w) (Nat.le_refl _) w3 D _ _ (by omega) hK3 rfl rfl))⟩
 case stop =>
  rintro D c pre W _ _ h _;exact h.elim
theorem days74 (s : Tt.Ser) (B : Nat) (w : World) (hn : s.ex.length <= 4611686018427387903) (hn2 : s.xt.length <= 4611686018427387903) (ao ao' : Option Addr) (c c' : Nat) (hB : B <= w.heap.size) (hI : Ints B w ao s.ex) (hI' : Ints B w ao' s.xt) :
  Calls Tryz.prog 74 #[serVal s (.slice ao s.ex.length c) (.slice ao' s.xt.length c')] w fun e w' => ∃ v,e = .returned v /\ w'.ownsRow w.heap.size 3 1 v (Tt.serDays s).length ((Tt.serDays s).map (Value.int .i64)) /\ Below w.heap.size w w':=by
 by_cases hv : Tt.serV s = 0
 ·exact days74_ok s B w hv ao ao' c c' hB hI hI'
 ·have HV:=Lh (valid145_any s B (w.alloc (.cells #[.int .i64 s.first,.int .i64 s.last,.int .i64 s.every,.int .i64 s.wd,.slice ao s.ex.length c,.slice ao' s.xt.length c'] 80)) hn hn2 ao ao' c c' (by simp;omega) (hI.below ((below_box w _).mono hB)) (hI'.below ((below_box w _).mono hB)));have HVV:=Lh (show (Tt.serV s != 0) = true by simp [hv]);have HD:=Lh (show Tt.serDays s = [] by unfold Tt.serDays;rw [if_pos hv]);clear hv hI hI';unfold serVal at HV ⊢;go_enter Tryz.func74,Tryz.ntmps74;go_wp2_with fail;refine HV.out.mono ?_;rintro e w0 ⟨rfl,hb0⟩;have hbe0:=below_then (below_box w _) hb0;have hvv:=HVV.out;clear HV hb0;go_wp2_with fail;refine bodyPost_ret (v:=.slice none 0 0) (by simp [results,Tryz.results74,go_sem]) rfl ?_;refine ⟨_,rfl,?_,hbe0⟩;rw [HD.out];exact World.ownsRow_nil _ _ _ _
end Go.Proofs.YtageielcdebjlaaGreatDoor
