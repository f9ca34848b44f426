/- Series of days: contracts of the small functions of calendar and recurrence, and of their references. recurrence.Valid and its reference: their contracts: each gives the error of the series. timetableref39.Valid: its contract: it gives the error of the series. Dates: the contracts of calendar.Parts, calendar.Day and of the reference's. feed.Fold: its contract. The generators' Text: some text of the given characters. timetableref02.SameStrings: its contract; slices of strings in memory. -/
import Derived.Test.YtcomifbfldoeiaaGreatDoorQk1
import Derived.Test.YtcomifbfldoeiaaGreatDoorQk3
import Derived.Below
import Derived.Laws.BitsLemmas
import Derived.Outline
import Derived.Lib.Builder
import Derived.StillTailTactics
import Derived.WalkSpells
open Nat renaming le_refl->xa,zero_le->xd
open List renaming getElem?_eq_getElem->xb,length_append->xc
set_option maxRecDepth 100000
set_option maxHeartbeats 40000000
-- SerW
namespace Go.Proofs.YtcomifbfldoeiaaGreatDoor
open Go.RowKit
theorem isD192 (n : Int) (w : World) : Calls Tryz.prog 137 #[.int .i64 n] w fun e w' => e = .returned (.bool (Tt.isD n)) /\ w' = w:=by
 have HD:=Lh (show Tt.isD n = (decide (0 <= n) && decide (n <= 36524)) from rfl);go_enter Tryz.func137,Tryz.ntmps137;go_wp2_with fail
 all_goals
  go_ret;exact ⟨ret_bool (by rw [HD.out];simp;omega),rfl⟩
theorem isD206 (n : Int) (w : World) : Calls Tryz.prog 150 #[.int .i64 n] w fun e w' => e = .returned (.bool (Tt.isD n)) /\ w' = w:=by
 have HD:=Lh (show Tt.isD n = (decide (0 <= n) && decide (n <= 36524)) from rfl);go_enter Tryz.func150,Tryz.ntmps150;go_wp2_with fail
 all_goals
  go_ret;exact ⟨ret_bool (by rw [HD.out];simp;omega),rfl⟩
theorem wkd191 (n : Int) (w : World) (h : Tt.isD n = true) : Calls Tryz.prog 95 #[.int .i64 n] w fun e w' => e = .returned (.int .i64 (Tt.wk n)) /\ w' = w:=by
 have hb:=(Tt.isD_iff n).1 h;have H:=Lh h;clear h;go_enter Tryz.func95,Tryz.ntmps95;go_wp2_with (go_at_call 137;refine (isD192 _ _).mono ?_;rintro e w' ⟨rfl,rfl⟩;rw [H.out]);go_ret;exact ⟨rfl,rfl⟩
theorem and_one (x : Int) (h0 : 0 <= x) (h1 : x < 4611686018427387904) : bits .and .i64 x 1 = x % 2:=by
 have:=bits_mask .i64 62 (by decide) (fun n h0 h1 => by rw [IntKind.wrap_i64];omega) 1 (by decide) x h0 (by simpa using h1);simpa using this
theorem shr_bd (m k : Int) (h0 : 0 <= m) (h1 : m < 4611686018427387904) : 0 <= m / 2 ^ k.toNat /\ m / 2 ^ k.toNat < 4611686018427387904:=by
 have hp : (0 : Int) < 2 ^ k.toNat:=Int.pow_pos (by decide);refine ⟨Int.ediv_nonneg h0 (by omega),?_⟩;have:=Int.ediv_le_self (2 ^ k.toNat) h0;omega
theorem bit_and (m k : Int) (h0 : 0 <= m) (h1 : m < 4611686018427387904) : bits .and .i64 (m / 2 ^ k.toNat) 1 = m / 2 ^ k.toNat % 2:=by
 obtain ⟨a,b⟩:=shr_bd m k h0 h1;exact and_one _ a b
theorem bit_not (m k : Int) (h0 : 0 <= m) (h1 : m < 4611686018427387904) : (bits .and .i64 (m / 2 ^ k.toNat) 1 == 0) = !Tt.bit m k:=by
 rw [bit_and m k h0 h1];unfold Tt.bit;rcases (show m / 2 ^ k.toNat % 2 = 0 ∨ m / 2 ^ k.toNat % 2 = 1 by omega) with e | e
 ·rw [e];rfl
 ·rw [e];rfl
theorem bit_is (m k : Int) (h0 : 0 <= m) (h1 : m < 4611686018427387904) : (bits .and .i64 (m / 2 ^ k.toNat) 1 == 1) = Tt.bit m k:=by
 rw [bit_and m k h0 h1];unfold Tt.bit;rcases (show m / 2 ^ k.toNat % 2 = 0 ∨ m / 2 ^ k.toNat % 2 = 1 by omega) with e | e
 ·rw [e];rfl
 ·rw [e];rfl
theorem below_then {w w1 w2 : World} (h : Below w.heap.size w w1) (k : Below w1.heap.size w1 w2) : Below w.heap.size w w2:=h.trans (k.mono h.size)
theorem below_drew {w w1 : World} {B q : Nat} (h : Below B w w1) : Below B w (w1.drewN q):=h.trans ⟨rfl,rfl,rfl,xa _,fun _ _ => rfl⟩
theorem below_drw {w w1 : World} {B : Nat} (h : Below B w w1) : Below B w w1.drew:=h.trans ⟨rfl,rfl,rfl,xa _,fun _ _ => rfl⟩
theorem redrew (w : World) (n : Nat) : ∃ w2 : World,w2 = w.drewN n /\ (∀ B : Nat,Below B w w2) /\ (∀ p : Addr,w2.cell? p = w.cell? p) /\ ∀ b : Nat,w2.heap[b]? = w.heap[b]? :=
 ⟨_,rfl,fun _ => ⟨rfl,rfl,rfl,xa _,fun _ _ => rfl⟩,fun _ => World.cell?_of_block (w:=w) rfl,fun _ => rfl⟩
theorem below_box (w : World) (o : Obj) : Below w.heap.size w (w.alloc o):=(Below.refl _ w).alloc (xa _) _
theorem counts280 (f l e m d : Int) (x y : Value) (w : World) (hf : Tt.isD f = true) (hd : Tt.isD d = true) (hfd : f <= d) (he0 : 1 <= e) (he1 : e <= 4) (ao ao' : Option Addr) (n n' c c' : Nat) (hx : x = .slice ao n c) (hy : y = .slice ao' n' c') :
  Calls Tryz.prog 214 #[.agg #[.int .i64 f,.int .i64 l,.int .i64 e,.int .i64 m,x,y],.int .i64 d] w fun e' w' => e' = .returned (.bool (Tt.cnt f e d)) /\ Below w.heap.size w w':=by
 have hb:=(Tt.isD_iff d).1 hd;have hb2:=(Tt.isD_iff f).1 hf;have hw:=Tt.wk_bd d;have hw2:=Tt.wk_bd f;have hm:=Tt.monday_le f d hfd;have H:=Lh hd;have H2:=Lh hf;have HC:=Lh (show Tt.cnt f e d = decide (((d - Tt.wk d) - (f - Tt.wk f)) / 7 % e = 0) from rfl);clear hd hf;subst hx hy;go_enter Tryz.func214,Tryz.ntmps214;go_wp2_with (go_at_call 95;refine (wkd191 _ _ H.out).mono ?_;rintro e w' ⟨rfl,rfl⟩);go_quiet ((go_at_call 95;exact Calls.quiet_of_same (wkd191 _ _ H2.out)))
 go_wp2_with fail;go_ret;exact ⟨ret_bool (by rw [HC.out];rfl),below_drew (below_box _ _)⟩
theorem regular220 (s : Tt.Ser) (d : Int) (w : World) (hf : Tt.isD s.first = true) (hd : Tt.isD d = true) (h1 : s.first <= d) (h2 : d <= s.last) (he0 : 1 <= s.every) (he1 : s.every <= 4) (hw0 : 0 <= s.wd) (hw1 : s.wd <= 127) (ao ao' : Option Addr) (n n' c c' : Nat) :
  Calls Tryz.prog 215 #[.agg #[.int .i64 s.first,.int .i64 s.last,.int .i64 s.every,.int .i64 s.wd,.slice ao n c,.slice ao' n' c'],.int .i64 d] w fun e' w' => e' = .returned (.bool (Tt.regB s d)) /\ Below w.heap.size w w':=by
 have hb:=(Tt.isD_iff d).1 hd;have hw:=Tt.wk_bd d;have H:=Lh hd;have H2:=Lh hf;obtain ⟨f,l,e,m,ex,xt⟩:=s;simp only at *;clear hd hf;have d1 : decide (d < f) = false:=decide_eq_false (by omega);have d2 : decide (l < d) = false:=decide_eq_false (by omega);have HB:=Lh (bit_not m (Tt.wk d) hw0 (by omega));have HR:=Lh (show Tt.regB ⟨f,l,e,m,ex,xt⟩ d = (Tt.bit m (Tt.wk d) && Tt.cnt f e d) by
  unfold Tt.regB;simp only;rw [decide_eq_true h1,decide_eq_true h2];rfl)
 go_enter Tryz.func215,Tryz.ntmps215;go_wp2_with fail;go_quiet ((go_at_call 95;exact Calls.quiet_of_same (wkd191 _ _ H.out)))
 rw [HB.out];cases hb1 : Tt.bit m (Tt.wk d)
 ·go_wp2_with fail;go_ret;exact ⟨ret_bool (by rw [HR.out,hb1];rfl),below_drew (below_box _ _)⟩
 ·go_wp2_with fail;refine (counts280 _ _ _ _ _ _ _ _ H2.out H.out h1 he0 he1 _ _ _ _ _ _ rfl rfl).mono ?_;rintro e w1 ⟨rfl,hb2⟩;go_wp2_with fail;go_ret;exact ⟨ret_bool (by rw [HR.out,hb1];rfl),below_then (below_drew (below_box _ _)) hb2⟩
theorem regular220_out (s : Tt.Ser) (d : Int) (w : World) (h1 : d < s.first ∨ s.last < d) (ao ao' : Option Addr) (n n' c c' : Nat) :
  Calls Tryz.prog 215 #[.agg #[.int .i64 s.first,.int .i64 s.last,.int .i64 s.every,.int .i64 s.wd,.slice ao n c,.slice ao' n' c'],.int .i64 d] w fun e' w' => e' = .returned (.bool (Tt.regB s d)) /\ Below w.heap.size w w':=by
 obtain ⟨f,l,e,m,ex,xt⟩:=s;simp only at *;have HR:=Lh (show Tt.regB ⟨f,l,e,m,ex,xt⟩ d = false by
  unfold Tt.regB;simp only;rcases h1 with h | h
  ·rw [decide_eq_false (by omega)];rfl
  ·rw [decide_eq_false (show ¬ d <= l by omega)];simp)
 by_cases h2 : d < f
 ·have d1 : decide (d < f) = true:=decide_eq_true h2;have d3 : decide (f <= d) = false:=decide_eq_false (by omega);clear h1;go_enter Tryz.func215,Tryz.ntmps215;go_wp2_with fail;go_quiet (fail);go_wp2_with fail;go_ret;exact ⟨ret_bool (by rw [HR.out]),below_drew (below_box _ _)⟩
 ·have d1 : decide (d < f) = false:=decide_eq_false h2;have d3 : decide (f <= d) = true:=decide_eq_true (by omega);have d2 : decide (l < d) = true:=decide_eq_true (by omega);have d4 : decide (d <= l) = false:=decide_eq_false (by omega);clear h1;go_enter Tryz.func215,Tryz.ntmps215;go_wp2_with fail;go_quiet (fail);go_wp2_with fail;go_ret;exact ⟨ret_bool (by rw [HR.out]),below_drew (below_box _ _)⟩
theorem regular220_any (s : Tt.Ser) (d : Int) (w : World) (hf : Tt.isD s.first = true) (hl : Tt.isD s.last = true) (he0 : 1 <= s.every) (he1 : s.every <= 4) (hw0 : 0 <= s.wd) (hw1 : s.wd <= 127) (ao ao' : Option Addr) (n n' c c' : Nat) :
  Calls Tryz.prog 215 #[.agg #[.int .i64 s.first,.int .i64 s.last,.int .i64 s.every,.int .i64 s.wd,.slice ao n c,.slice ao' n' c'],.int .i64 d] w fun e' w' => e' = .returned (.bool (Tt.regB s d)) /\ Below w.heap.size w w':=by
 by_cases h : d < s.first ∨ s.last < d
 ·exact regular220_out s d w h _ _ _ _ _ _
 ·refine regular220 s d w hf ?_ (by omega) (by omega) he0 he1 hw0 hw1 _ _ _ _ _ _;rw [Tt.isD_iff] at *;omega
end Go.Proofs.YtcomifbfldoeiaaGreatDoor
-- SerV
namespace Go.Proofs.YtcomifbfldoeiaaGreatDoor
open Go.RowKit
def Ints (B : Nat) (w : World) (ao : Option Addr) (xs : List Int) : Prop:=∀ (j : Nat) (x : Int),xs[j]? = some x -> ∃ a,ao = some a /\ a.block < B /\ w.cell? (a.add j) = some (.int .i64 x)
theorem Ints.below {B : Nat} {w w' : World} {ao : Option Addr} {xs : List Int} (h : Ints B w ao xs) (hw : Below B w w') : Ints B w' ao xs:=fun j x hx => by
 obtain ⟨a,ha,hlt,hc⟩:=h j x hx;exact ⟨a,ha,hlt,(hw.cell (p:=a.add j) (by rw [addr_add_block];exact hlt)).trans hc⟩
theorem Ints.mono {B B' : Nat} {w : World} {ao : Option Addr} {xs : List Int} (h : Ints B w ao xs) (hB : B <= B') : Ints B' w ao xs:=fun j x hx => by
 obtain ⟨a,ha,hlt,hc⟩:=h j x hx;exact ⟨a,ha,by omega,hc⟩
def serVal (s : Tt.Ser) (v v' : Value) : Value:=.agg #[.int .i64 s.first,.int .i64 s.last,.int .i64 s.every,.int .i64 s.wd,v,v']
def SerAt (b : Nat) (s : Tt.Ser) (v v' : Value) (w : World) : Prop:=w.heap[b]? = some (.cells #[.int .i64 s.first,.int .i64 s.last,.int .i64 s.every,.int .i64 s.wd,v,v'] 102 (0,0))
theorem SerAt.lt {b : Nat} {s : Tt.Ser} {v v' : Value} {w : World} (h : SerAt b s v v' w) : b < w.heap.size:=(Array.getElem?_eq_some_iff.1 h).1
theorem SerAt.cells {b : Nat} {s : Tt.Ser} {v v' : Value} {w : World} (h : SerAt b s v v' w) :
  w.cell? ⟨b,0,none⟩ = some (.int .i64 s.first) /\ w.cell? ⟨b,1,none⟩ = some (.int .i64 s.last) /\ w.cell? ⟨b,2,none⟩ = some (.int .i64 s.every) /\ w.cell? ⟨b,3,none⟩ = some (.int .i64 s.wd) /\ w.cell? ⟨b,4,none⟩ = some v /\ w.cell? ⟨b,5,none⟩ = some v':=by
 refine ⟨?_,?_,?_,?_,?_,?_⟩ <;> (rw [Lib.cell_of_heap h];rfl)
theorem SerAt.block {b : Nat} {s : Tt.Ser} {v v' : Value} {w w' : World} (h : SerAt b s v v' w) (hw : w'.heap[b]? = w.heap[b]?) : SerAt b s v v' w':=hw.trans h
theorem valid145_head (s : Tt.Ser) (w : World) (hh : Tt.headV s ≠ 0) (hn : s.ex.length <= 4611686018427387903) (hn2 : s.xt.length <= 4611686018427387903) (ao ao' : Option Addr) (c c' : Nat) :
  Calls Tryz.prog 157 #[serVal s (.slice ao s.ex.length c) (.slice ao' s.xt.length c')] w fun e w' => e = .returned (.int .i64 (Tt.headV s)) /\ Below w.heap.size w w':=by
 have HH:=Lh hh;unfold serVal;obtain ⟨f,l,e,m,ex,xt⟩:=s;simp only at *;clear hh;cases hf : Tt.isD f
 ·have HE:=Lh (show Tt.headV ⟨f,l,e,m,ex,xt⟩ = 13 by unfold Tt.headV;simp only [hf];rfl);have HF:=Lh hf;clear hf;go_enter Tryz.func157,Tryz.ntmps157;go_wp2_with (go_at_call 150;refine (isD206 _ _).mono ?_;rintro e w' ⟨rfl,rfl⟩;try rw [HF.out]);go_ret;exact ⟨ret_int HE.out.symm,below_box _ _⟩
 ·cases hl : Tt.isD l
  ·have HE:=Lh (show Tt.headV ⟨f,l,e,m,ex,xt⟩ = 13 by unfold Tt.headV;simp only [hf,hl];rfl);have HF:=Lh hf;have HL:=Lh hl;clear hf hl;go_enter Tryz.func157,Tryz.ntmps157;go_wp2_with (go_at_call 150;refine (isD206 _ _).mono ?_;rintro e w' ⟨rfl,rfl⟩;first | rw [HF.out] | rw [HL.out])
   all_goals
    go_ret;exact ⟨ret_int HE.out.symm,below_box _ _⟩
  ·have hfb:=(Tt.isD_iff f).1 hf;have hlb:=(Tt.isD_iff l).1 hl;have HE:=Lh (show Tt.headV ⟨f,l,e,m,ex,xt⟩ = (if l < f ∨ f + 140 < l then 3 else if e < 1 ∨ 4 < e ∨ m < 0 ∨ 127 < m then 3 else if 140 < (ex.length : Int) + xt.length then 2 else 0) by unfold Tt.headV;simp only [hf,hl];rfl);have HF:=Lh hf;have HL:=Lh hl;clear hf hl;go_enter Tryz.func157,Tryz.ntmps157;go_wp2_with (go_at_call 150;refine (isD206 _ _).mono ?_;rintro e w' ⟨rfl,rfl⟩;first | rw [HF.out] | rw [HL.out])
   all_goals first
    | (go_ret;exact ⟨ret_int (by rw [HE.out];(repeat' split) <;> omega),below_box _ _⟩)
    | (refine absurd ?_ HH.out;rw [HE.out];(repeat' split) <;> omega)
theorem valid145_body (s : Tt.Ser) (B : Nat) (w : World) (hh : Tt.Head s) (ao ao' : Option Addr) (c c' : Nat) (hB : B <= w.heap.size) (hI : Ints B w ao s.ex) (hI' : Ints B w ao' s.xt) :
  Calls Tryz.prog 157 #[serVal s (.slice ao s.ex.length c) (.slice ao' s.xt.length c')] w fun e w' => e = .returned (.int .i64 (Tt.serV s)) /\ Below w.heap.size w w':=by
 have hf : Tt.isD s.first = true:=(Tt.isD_iff _).2 ⟨hh.f0,hh.f1⟩;have hl : Tt.isD s.last = true:=(Tt.isD_iff _).2 ⟨hh.l0,hh.l1⟩;have HF:=Lh hf;have HL:=Lh hl;have HH:=Lh hh;have HI:=Lh hI;have HI':=Lh hI';have R:=fun d W => regular220_any s d W hf hl hh.e0 hh.e1 hh.w0 hh.w1
 have HR:=Lh R;obtain ⟨a1,a2,a3,a4,a5,a6,a7,a8,a9,a10,a11⟩:=hh;have hsum : IntKind.i64.wrap ((s.ex.length : Int) + s.xt.length) = (s.ex.length : Int) + s.xt.length:=by rw [IntKind.wrap_i64];omega
 have HS:=Lh hsum;have S0 : SerAt w.heap.size s (.slice ao s.ex.length c) (.slice ao' s.xt.length c') (w.alloc (.cells #[.int .i64 s.first,.int .i64 s.last,.int .i64 s.every,.int .i64 s.wd,.slice ao s.ex.length c,.slice ao' s.xt.length c'] 102)):=heap_alloc_new w _;have HS0:=Lh S0;unfold serVal;clear hf hl hI hI' R hsum S0;go_enter Tryz.func157,Tryz.ntmps157;go_wp2_with (go_at_call 150;refine (isD206 _ _).mono ?_;rintro e w' ⟨rfl,rfl⟩;first | rw [HF.out] | rw [HL.out]);go_loopw [63] (fun iv wr => ∃ k : Nat,iv = .int .i64 k /\ k <= s.ex.length /\ Below w.heap.size w wr /\ Hid (SerAt w.heap.size s (.slice ao s.ex.length c) (.slice ao' s.xt.length c') wr) /\ Hid (Tt.listV 12 (Tt.regB s) none s.ex = Tt.listF 12 (Tt.regB s) s.ex k)) (fun iv _ => s.ex.length - (intOf iv).toNat)
 case atStart => exact ⟨0,rfl,xd _,below_box _ _,HS0.out,rfl⟩
 case round =>
  obtain ⟨k,rfl,hk,hbe,HA,HX⟩:=hrel;obtain ⟨e0,e1,e2,e3,e4,e5⟩:=HA.out.cells;have hsz:=HA.out.lt;by_cases hlt : k < s.ex.length
  ·obtain ⟨d,hd⟩ : ∃ d,s.ex[k]? = some d:=⟨_,xb hlt⟩
   obtain ⟨a,ha,hlta,hca⟩:=HI.out k d hd;subst ha;have hc:=(hbe.cell (p:=a.add k) (by rw [addr_add_block];omega)).trans hca;clear hca;have HD:=Lh hd;have hki : (k : Int) < (s.ex.length : Int):=by omega
   cases k with
   | zero =>
    rw [Addr.add_zero'] at hc;have HLT:=Lh (show ∀ j q,0 = j + 1 -> s.ex[j]? = some q -> q < d from fun j q h => by omega);clear hd;go_wp2_with fail;refine (HR.out d _ _ _ _ _ _ _).mono ?_;rintro e w1 ⟨rfl,hb1⟩;have hbe1:=below_then hbe hb1;have HA1:=Lh (HA.out.block (hb1.block _ hsz));cases hr : Tt.regB s d
    ·have HE:=Lh (Tt.serV_ex s HH.out 0 12 HX.out (Tt.listF_bad 12 _ _ 0 d HD.out HLT.out hr) (by decide));clear hr;go_wp2_with fail;go_ret;exact ⟨ret_int HE.out.symm,hbe1⟩
    ·have HE:=Lh (HX.out.trans (Tt.listF_step 12 _ _ 0 d HD.out HLT.out hr));clear hr;go_wp2_with fail;go_roundw
     case rel => exact ⟨0 + 1,by go_num,by omega,hbe1,HA1.out,HE.out⟩
     case measure => simp [intOf];omega
   | succ j =>
    obtain ⟨q,hq⟩ : ∃ q,s.ex[j]? = some q:=⟨_,xb (by omega)⟩
    obtain ⟨a',ha',_,hca'⟩:=HI.out j q hq;cases ha';have hc':=(hbe.cell (p:=a.add j) (by rw [addr_add_block];omega)).trans hca';rw [Addr.add_succ'] at hc;clear hca';by_cases hdq : d <= q
    ·have HE:=Lh (Tt.serV_ex s HH.out (j + 1) 63 HX.out (Tt.listF_order 12 _ _ j d q hd hq hdq) (by decide));clear hd hq;go_wp2_with fail;go_ret;exact ⟨ret_int HE.out.symm,hbe⟩
    ·have HLT:=Lh (show ∀ j' q',j + 1 = j' + 1 -> s.ex[j']? = some q' -> q' < d from fun j' q' h hq' => by
      obtain rfl : j = j':=by omega
      rw [hq] at hq';cases hq';omega)
     clear hd hq;go_wp2_with fail;refine (HR.out d _ _ _ _ _ _ _).mono ?_;rintro e w1 ⟨rfl,hb1⟩;have hbe1:=below_then hbe hb1;have HA1:=Lh (HA.out.block (hb1.block _ hsz));cases hr : Tt.regB s d
     ·have HE:=Lh (Tt.serV_ex s HH.out (j + 1) 12 HX.out (Tt.listF_bad 12 _ _ (j + 1) d HD.out HLT.out hr) (by decide));clear hr;go_wp2_with fail;go_ret;exact ⟨ret_int HE.out.symm,hbe1⟩
     ·have HE:=Lh (HX.out.trans (Tt.listF_step 12 _ _ (j + 1) d HD.out HLT.out hr));clear hr;go_wp2_with fail;go_roundw
      case rel => exact ⟨(j + 1) + 1,by go_num,by omega,hbe1,HA1.out,HE.out⟩
      case measure => simp [intOf];omega
  ·have hke : k = s.ex.length:=by omega
   have hki : ¬ (k : Int) < (s.ex.length : Int):=by omega
   have HX1:=Lh (HX.out.trans (Tt.listF_end 12 _ _ k (by omega)));clear hke HX;go_wp2_with fail;clear hki hlt hk;go_loopw [88] (fun iv wr => ∃ k : Nat,iv = .int .i64 k /\ k <= s.xt.length /\ Below w.heap.size w wr /\ Hid (SerAt w.heap.size s (.slice ao s.ex.length c) (.slice ao' s.xt.length c') wr) /\ Hid (Tt.listV 11 (Tt.extB s) none s.xt = Tt.listF 11 (Tt.extB s) s.xt k)) (fun iv _ => s.xt.length - (intOf iv).toNat)
   case atStart => exact ⟨0,rfl,xd _,hbe,HA.out,rfl⟩
   case round =>
    clear e0 e1 e2 e3 e4 e5 hsz hbe HA;obtain ⟨k,rfl,hk,hbe,HA,HX⟩:=hrel;obtain ⟨e0,e1,e2,e3,e4,e5⟩:=HA.out.cells;have hsz:=HA.out.lt;by_cases hlt : k < s.xt.length
    ·obtain ⟨d,hd⟩ : ∃ d,s.xt[k]? = some d:=⟨_,xb hlt⟩
     obtain ⟨a,ha,hlta,hca⟩:=HI'.out k d hd;subst ha;have hc:=(hbe.cell (p:=a.add k) (by rw [addr_add_block];omega)).trans hca;clear hca;have HD:=Lh hd;have hki : (k : Int) < (s.xt.length : Int):=by omega
     cases k with
     | zero =>
      rw [Addr.add_zero'] at hc;have HLT:=Lh (show ∀ j q,0 = j + 1 -> s.xt[j]? = some q -> q < d from fun j q h => by omega);clear hd;by_cases hdf : d < s.first ∨ s.last < d
      ·have HE:=Lh ((Tt.serV_xt s HH.out 0 HX1.out HX.out).trans (Tt.listF_bad 11 _ _ 0 d HD.out HLT.out (Tt.extB_out s d hdf)));rcases hdf with h | h
       ·go_wp2_with fail;go_ret;exact ⟨ret_int HE.out.symm,hbe⟩
       ·have h' : ¬ d < s.first:=by omega
        go_wp2_with fail;go_ret;exact ⟨ret_int HE.out.symm,hbe⟩
      ·have hd1 : ¬ d < s.first:=by omega
       have hd2 : ¬ s.last < d:=by omega
       have HXB:=Lh (show Tt.extB s d = !Tt.regB s d from Tt.extB_in s d hdf);clear hdf;go_wp2_with fail;refine (HR.out d _ _ _ _ _ _ _).mono ?_;rintro e w1 ⟨rfl,hb1⟩;have hbe1:=below_then hbe hb1;have HA1:=Lh (HA.out.block (hb1.block _ hsz));cases hr : Tt.regB s d
       ·have HE:=Lh (HX.out.trans (Tt.listF_step 11 _ _ 0 d HD.out HLT.out (by rw [HXB.out,hr];rfl)));clear hr;go_wp2_with fail;go_roundw
        case rel => exact ⟨0 + 1,by go_num,by omega,hbe1,HA1.out,HE.out⟩
        case measure => simp [intOf];omega
       ·have HE:=Lh ((Tt.serV_xt s HH.out 0 HX1.out HX.out).trans (Tt.listF_bad 11 _ _ 0 d HD.out HLT.out (by rw [HXB.out,hr];rfl)));clear hr;go_wp2_with fail;go_ret;exact ⟨ret_int HE.out.symm,hbe1⟩
     | succ j =>
      obtain ⟨q,hq⟩ : ∃ q,s.xt[j]? = some q:=⟨_,xb (by omega)⟩
      obtain ⟨a',ha',_,hca'⟩:=HI'.out j q hq;cases ha';have hc':=(hbe.cell (p:=a.add j) (by rw [addr_add_block];omega)).trans hca';rw [Addr.add_succ'] at hc;clear hca';by_cases hdq : d <= q
      ·have HE:=Lh ((Tt.serV_xt s HH.out (j + 1) HX1.out HX.out).trans (Tt.listF_order 11 _ _ j d q hd hq hdq));clear hd hq;go_wp2_with fail;go_ret;exact ⟨ret_int HE.out.symm,hbe⟩
      ·have HLT:=Lh (show ∀ j' q',j + 1 = j' + 1 -> s.xt[j']? = some q' -> q' < d from fun j' q' h hq' => by
        obtain rfl : j = j':=by omega
        rw [hq] at hq';cases hq';omega)
       clear hd hq;by_cases hdf : d < s.first ∨ s.last < d
       ·have HE:=Lh ((Tt.serV_xt s HH.out (j + 1) HX1.out HX.out).trans (Tt.listF_bad 11 _ _ (j + 1) d HD.out HLT.out (Tt.extB_out s d hdf)));rcases hdf with h | h
        ·go_wp2_with fail;go_ret;exact ⟨ret_int HE.out.symm,hbe⟩
        ·have h' : ¬ d < s.first:=by omega
         go_wp2_with fail;go_ret;exact ⟨ret_int HE.out.symm,hbe⟩
       ·have hd1 : ¬ d < s.first:=by omega
        have hd2 : ¬ s.last < d:=by omega
        have HXB:=Lh (show Tt.extB s d = !Tt.regB s d from Tt.extB_in s d hdf);clear hdf;go_wp2_with fail;refine (HR.out d _ _ _ _ _ _ _).mono ?_;rintro e w1 ⟨rfl,hb1⟩;have hbe1:=below_then hbe hb1;have HA1:=Lh (HA.out.block (hb1.block _ hsz));cases hr : Tt.regB s d
        ·have HE:=Lh (HX.out.trans (Tt.listF_step 11 _ _ (j + 1) d HD.out HLT.out (by rw [HXB.out,hr];rfl)));clear hr;go_wp2_with fail;go_roundw
         case rel => exact ⟨(j + 1) + 1,by go_num,by omega,hbe1,HA1.out,HE.out⟩
         case measure => simp [intOf];omega
        ·have HE:=Lh ((Tt.serV_xt s HH.out (j + 1) HX1.out HX.out).trans (Tt.listF_bad 11 _ _ (j + 1) d HD.out HLT.out (by rw [HXB.out,hr];rfl)));clear hr;go_wp2_with fail;go_ret;exact ⟨ret_int HE.out.symm,hbe1⟩
    ·have hki : ¬ (k : Int) < (s.xt.length : Int):=by omega
     have HE:=Lh ((Tt.serV_xt s HH.out k HX1.out HX.out).trans (Tt.listF_end 11 _ _ k (by omega)));go_wp2_with fail;go_ret;exact ⟨ret_int HE.out.symm,hbe⟩
end Go.Proofs.YtcomifbfldoeiaaGreatDoor
-- SerV2
namespace Go.Proofs.YtcomifbfldoeiaaGreatDoor
open Go.RowKit
def Lens (w : World) : Prop:=∀ i : Nat,i < 12 -> w.cell? ⟨6,i,none⟩ = some (.int .i64 (([31,28,31,30,31,30,31,31,30,31,30,31] : List Int).getD i 0))
theorem Lens.below {B : Nat} {w w' : World} (h : Lens w) (hB : 6 < B) (hb : Below B w w') : Lens w':=fun i hi => (hb.cell (p:=⟨6,i,none⟩) hB).trans (h i hi)
theorem leap345 (y : Int) (w : World) (h0 : 2000 <= y) (h1 : y <= 2099) : Calls Tryz.prog 325 #[.int .i64 y] w fun e w' => e = .returned (.bool (y % 4 == 0)) /\ w' = w:=by
 have m0:=Int.emod_nonneg y (show (4 : Int) ≠ 0 by omega);have m1:=Int.emod_lt_of_pos y (show (0 : Int) < 4 by omega);by_cases hm : y % 4 = 0
 ·by_cases hc : y % 100 = 0
  ·have e : y = 2000:=by omega
   subst e;go_enter Tryz.func325,Tryz.ntmps325;go_wp2_with fail;go_ret;exact ⟨rfl,rfl⟩
  ·have hb : (y % 4 == 0) = true:=by simp [hm]
   have hd : (y % 100 == 0) = false:=by simp [hc]
   have m2:=Int.emod_nonneg y (show (100 : Int) ≠ 0 by omega);rw [hb];go_enter Tryz.func325,Tryz.ntmps325;go_wp2_with fail;go_ret;exact ⟨rfl,rfl⟩
 ·have hb : (y % 4 == 0) = false:=by simp [hm]
  rw [hb];go_enter Tryz.func325,Tryz.ntmps325;go_wp2_with fail;go_ret;exact ⟨rfl,rfl⟩
theorem days317 (y : Int) (w : World) (h0 : 2000 <= y) (h1 : y <= 2099) : Calls Tryz.prog 297 #[.int .i64 y] w fun e w' => e = .returned (.int .i64 (Tt.ylen y)) /\ w' = w:=by
 have HY:=Lh (show Tt.ylen y = if (y % 4 == 0) = true then 366 else 365 from by unfold Tt.ylen;simp);go_enter Tryz.func297,Tryz.ntmps297;go_wp2_with fail;refine (leap345 y w h0 h1).mono ?_;rintro e w1 ⟨rfl,hw⟩;rw [hw];clear hw w1;cases hb : (y % 4 == 0)
 ·go_wp2_with fail;go_ret;exact ⟨ret_int (by rw [HY.out,hb];rfl),rfl⟩
 ·go_wp2_with fail;go_ret;exact ⟨ret_int (by rw [HY.out,hb];rfl),rfl⟩
theorem length316 (y m : Int) (w : World) (h0 : 2000 <= y) (h1 : y <= 2099) (m0 : 1 <= m) (m1 : m <= 12) (hL : Lens w) : Calls Tryz.prog 296 #[.int .i64 y,.int .i64 m] w fun e w' => e = .returned (.int .i64 (Tt.mlen y m)) /\ w' = w:=by
  by_cases h2 : m = 2
  · subst h2;have HY:=Lh (show Tt.mlen y 2 = if (y % 4 == 0) = true then 29 else 28 from by unfold Tt.mlen;simp);have c1:=hL 1 (by omega);simp only [List.getD_cons_succ,List.getD_cons_zero] at c1;go_enter Tryz.func296,Tryz.ntmps296;go_wp2_with fail;refine (leap345 y w h0 h1).mono ?_;rintro e w1 ⟨rfl,hw⟩;rw [hw];clear hw w1;cases hb : (y % 4 == 0)
    · go_wp2_with fail;go_ret;exact ⟨ret_int (by rw [HY.out,hb];rfl),rfl⟩
    · go_wp2_with fail;go_ret;exact ⟨ret_int (by rw [HY.out,hb];rfl),rfl⟩
  · have hb : (m == 2) = false:=by simp [h2]
    obtain ⟨k,hk⟩ : ∃ k : Nat,m = (k : Int) + 1:=⟨(m - 1).toNat,by omega⟩
    have hk12 : k < 12:=by omega
    have HY:=Lh (show Tt.mlen y m = (([31,28,31,30,31,30,31,31,30,31,30,31] : List Int).getD k 0) from by
      obtain ⟨l1,l2,l3,l4,l5,l6,l7,l8,l9,l10,l11,l12⟩:=Tt.mlens y;rcases (show m = 1 ∨ m = 3 ∨ m = 4 ∨ m = 5 ∨ m = 6 ∨ m = 7 ∨ m = 8 ∨ m = 9 ∨ m = 10 ∨ m = 11 ∨ m = 12 by omega) with e | e | e | e | e | e | e | e | e | e | e
      all_goals (have hk : k = (m - 1).toNat:=by omega
                 subst e;subst hk;first | exact l1 | exact l3 | exact l4 | exact l5 | exact l6 | exact l7 | exact l8 | exact l9 | exact l10 | exact l11 | exact l12))
    have c1:=hL k hk12;generalize (([31,28,31,30,31,30,31,31,30,31,30,31] : List Int).getD k 0) = z at c1 HY;subst hk;have hk1 : (k : Int) + 1 - 1 = k:=by omega
    go_enter Tryz.func296,Tryz.ntmps296;go_wp2_with fail;go_ret;exact ⟨ret_int HY.out.symm,rfl⟩
theorem date_bd {day : Int} (h1 : day <= 36524) {y : Int} {k : Nat} (hy : y = 2000 + (k : Int)) (hr : 0 <= day - Tt.yb k) : y <= 2099:=by
 have:=Tt.yb_closed k;omega
theorem date_made {day y m r : Int} {k j : Nat} (hy : y = 2000 + (k : Int)) (hm : m = 1 + (j : Int)) (y1 : y <= 2099) (hj : j <= 11) (hr : r = day - Tt.yb k - Tt.mb y j) (r0 : 0 <= r) (r1 : r < Tt.mlen y m) : Tt.IsDate day y m (r + 1):=by
 refine ⟨by omega,y1,by omega,by omega,by omega,by omega,?_⟩;rw [show (y - 2000).toNat = k by omega,show (m - 1).toNat = j by omega];omega
theorem month_last {y r : Int} {j : Nat} (hj : j <= 11) (hr : r < Tt.ylen y) (h : Tt.mlen y (1 + (j : Int)) <= r - Tt.mb y j) : j + 1 <= 11 /\ Tt.mb y (j + 1) = Tt.mb y j + Tt.mlen y (1 + (j : Int)):=by
 have e : Tt.mb y (j + 1) = Tt.mb y j + Tt.mlen y (1 + (j : Int)):=by rw [Tt.mb,Int.add_comm 1 (j : Int)]
 refine ⟨?_,e⟩;have h12:=(Tt.mb_all y).2.2.2.2.2.2.2.2.2.2.2.2;rcases Nat.lt_or_ge j 11 with h1 | h1
 ·omega
 ·obtain rfl : j = 11:=by omega
  rw [h12] at e;omega
theorem parts308 (day : Int) (w : World) (hL : Lens w) (h0 : 0 <= day) (h1 : day <= 36524) :
  Calls Tryz.prog 254 #[.int .i64 day] w fun e w' => e = .returned (.tuple #[.int .i64 (Tt.yOf day),.int .i64 (Tt.mOf day),.int .i64 (Tt.dOf day),.int .i64 0]) /\ w' = w:=by
 have HD:=Lh (show Tt.isD day = true from (Tt.isD_iff day).2 ⟨h0,h1⟩);have HL:=Lh hL;clear hL;go_enter Tryz.func254,Tryz.ntmps254;go_wp2_with fail;refine (isD192 day w).mono ?_;rintro e w1 ⟨rfl,hw⟩;rw [hw,HD.out];clear hw w1;go_wp2_with fail;go_loop [0,2] (fun rv yv => ∃ k : Nat,rv = .int .i64 (day - Tt.yb k) /\ yv = .int .i64 (2000 + (k : Int)) /\ 0 <= day - Tt.yb k) (fun rv _ => (intOf rv).toNat)
 case atStart => exact ⟨0,by simp [Tt.yb],rfl,by simp [Tt.yb];omega⟩
 case round =>
  obtain ⟨k,rfl,rfl,hk⟩:=hrel;have hy:=date_bd h1 (y:=2000 + (k : Int)) (k:=k) rfl hk;have hyl:=Tt.ylen_bd (2000 + (k : Int));have HS:=Lh (show Tt.yb (k + 1) = Tt.yb k + Tt.ylen (2000 + (k : Int)) from rfl);have hyb : 0 <= Tt.yb k:=by rw [Tt.yb_closed];omega
  go_wp2_with fail;refine (days317 _ w (by omega) hy).mono ?_;rintro e w1 ⟨rfl,hw⟩;rw [hw];clear hw w1;by_cases hge : Tt.ylen (2000 + (k : Int)) <= day - Tt.yb k
  ·have hwr : IntKind.i64.wrap (day - Tt.yb k - Tt.ylen (2000 + (k : Int))) = day - Tt.yb k - Tt.ylen (2000 + (k : Int)):=by rw [IntKind.wrap_i64];omega
   go_wp2_with fail;refine (days317 _ w (by omega) hy).mono ?_;rintro e w1 ⟨rfl,hw⟩;rw [hw];clear hw w1;go_wp2_with fail;go_round
   case rel => exact ⟨k + 1,by rw [HS.out];go_num,by go_num,by rw [HS.out];omega⟩
   case measure => simp [intOf];omega
  ·have hlt : day - Tt.yb k < Tt.ylen (2000 + (k : Int)):=by omega
   go_wp2_with fail;obtain ⟨y,hyy⟩ : ∃ y,y = 2000 + (k : Int):=⟨_,rfl⟩
   have HY:=Lh hyy;rw [<- hyy] at hy hyl hlt ⊢;clear hyy HS hge;go_loop [0,3] (fun rv mv => ∃ j : Nat,rv = .int .i64 (day - Tt.yb k - Tt.mb y j) /\ mv = .int .i64 (1 + (j : Int)) /\ j <= 11 /\ 0 <= day - Tt.yb k - Tt.mb y j) (fun rv _ => (intOf rv).toNat)
   case atStart => exact ⟨0,by simp [Tt.mb],rfl,by omega,by simp [Tt.mb];omega⟩
   case round =>
    obtain ⟨j,rfl,rfl,hj,hr⟩:=hrel;have hml:=Tt.mlen_bd y (1 + (j : Int));go_wp2_with fail;refine (length316 y (1 + (j : Int)) w (by have:=HY.out;omega) hy (by omega) (by omega) HL.out).mono ?_;rintro e w1 ⟨rfl,hw⟩;rw [hw];clear hw w1;by_cases hge : Tt.mlen y (1 + (j : Int)) <= day - Tt.yb k - Tt.mb y j
    ·have HN:=Lh (month_last hj hlt hge);have hmb:=Tt.mb_bd y j;have hwr : IntKind.i64.wrap (day - Tt.yb k - Tt.mb y j - Tt.mlen y (1 + (j : Int))) = day - Tt.yb k - Tt.mb y j - Tt.mlen y (1 + (j : Int)):=by rw [IntKind.wrap_i64];omega
     go_wp2_with fail;refine (length316 y (1 + (j : Int)) w (by have:=HY.out;omega) hy (by omega) (by omega) HL.out).mono ?_;rintro e w1 ⟨rfl,hw⟩;rw [hw];clear hw w1;go_wp2_with fail;go_round
     case rel => exact ⟨j + 1,by rw [HN.out.2];go_num,by go_num,HN.out.1,by rw [HN.out.2];omega⟩
     case measure => simp [intOf];omega
    ·have HI:=Lh (date_made HY.out rfl hy hj rfl hr (by omega)).of;have hmb:=Tt.mb_bd y j;have hwr : IntKind.i64.wrap (day - Tt.yb k - Tt.mb y j + 1) = day - Tt.yb k - Tt.mb y j + 1:=by rw [IntKind.wrap_i64];omega
     go_wp2_with fail;refine bodyPost_ret (v:=.tuple #[.int .i64 y,.int .i64 (1 + (j : Int)),.int .i64 (day - Tt.yb k - Tt.mb y j + 1),.int .i64 0]) (by simp [results,Tryz.results254,go_sem]) rfl ?_;exact ⟨by rw [<- HI.out.1,<- HI.out.2.1,<- HI.out.2.2],rfl⟩
-- Day
theorem ret_pair {a a' b b' : Int} (h : a = a') (h2 : b = b') : Ending.returned (.tuple #[.int .i64 a,.int .i64 b]) = .returned (.tuple #[.int .i64 a',.int .i64 b']):=by rw [h,h2]
theorem day255 (y m d : Int) (w : World) (hL : Lens w) (d0 : -1000000 <= d) (d1 : d <= 1000000) :
  Calls Tryz.prog 236 #[.int .i64 y,.int .i64 m,.int .i64 d] w fun e w' => e = .returned (.tuple #[.int .i64 (Tt.dayV y m d).1,.int .i64 (Tt.dayV y m d).2]) /\ w' = w:=by
 have HL:=Lh hL;clear hL;by_cases hbad : y < 2000 ∨ 2099 < y ∨ m < 1 ∨ 12 < m ∨ d < 1
 ·have HR:=Lh (show Tt.dayV y m d = (0,13) from by unfold Tt.dayV;rw [if_pos (by omega)]);go_enter Tryz.func236,Tryz.ntmps236;rcases hbad with h | h | h | h | h
  ·go_wp2_with fail;go_ret2;exact ⟨ret_pair (by rw [HR.out]) (by rw [HR.out]),rfl⟩
  ·go_wp2_with fail;go_ret2;exact ⟨ret_pair (by rw [HR.out]) (by rw [HR.out]),rfl⟩
  ·by_cases h1 : y < 2000
   ·go_wp2_with fail;go_ret2;exact ⟨ret_pair (by rw [HR.out]) (by rw [HR.out]),rfl⟩
   ·by_cases h2 : 2099 < y
    all_goals
     go_wp2_with fail;go_ret2;exact ⟨ret_pair (by rw [HR.out]) (by rw [HR.out]),rfl⟩
  ·by_cases h1 : y < 2000
   ·go_wp2_with fail;go_ret2;exact ⟨ret_pair (by rw [HR.out]) (by rw [HR.out]),rfl⟩
   ·by_cases h2 : 2099 < y
    all_goals
     go_wp2_with fail;go_ret2;exact ⟨ret_pair (by rw [HR.out]) (by rw [HR.out]),rfl⟩
  ·by_cases h1 : y < 2000
   ·go_wp2_with fail;go_ret2;exact ⟨ret_pair (by rw [HR.out]) (by rw [HR.out]),rfl⟩
   ·by_cases h2 : 2099 < y
    ·go_wp2_with fail;go_ret2;exact ⟨ret_pair (by rw [HR.out]) (by rw [HR.out]),rfl⟩
    ·by_cases h3 : m < 1
     ·go_wp2_with fail;go_ret2;exact ⟨ret_pair (by rw [HR.out]) (by rw [HR.out]),rfl⟩
     ·by_cases h4 : 12 < m
      all_goals
       go_wp2_with fail;go_ret2;exact ⟨ret_pair (by rw [HR.out]) (by rw [HR.out]),rfl⟩
 ·have y0 : 2000 <= y:=by omega
  have y1 : y <= 2099:=by omega
  have m0 : 1 <= m:=by omega
  have m1 : m <= 12:=by omega
  have e0 : 1 <= d:=by omega
  clear hbad;have hml:=Tt.mlen_bd y m;go_enter Tryz.func236,Tryz.ntmps236;go_wp2_with fail;refine (length316 y m w (by omega) (by omega) (by omega) (by omega) HL.out).mono ?_;rintro e w1 ⟨rfl,hw⟩;rw [hw];clear hw w1;by_cases hd : Tt.mlen y m < d
  ·have HR:=Lh (show Tt.dayV y m d = (0,13) from by unfold Tt.dayV;rw [if_pos (by omega)]);go_wp2_with fail;go_ret2;exact ⟨ret_pair (by rw [HR.out]) (by rw [HR.out]),rfl⟩
  ·have HR:=Lh (show Tt.dayV y m d = (Tt.yb (y - 2000).toNat + Tt.mb y (m - 1).toNat + d - 1,0) from by unfold Tt.dayV;rw [if_neg (by omega)]);have hwd : IntKind.i64.wrap (d - 1) = d - 1:=by rw [IntKind.wrap_i64];omega
   go_wp2_with fail;go_loop [8,9] (fun nv yv => ∃ k : Nat,nv = .int .i64 (d - 1 + Tt.yb k) /\ yv = .int .i64 (2000 + (k : Int)) /\ 2000 + (k : Int) <= y) (fun _ yv => (y - intOf yv).toNat)
   case atStart => exact ⟨0,by simp [Tt.yb],rfl,by omega⟩
   case round =>
    obtain ⟨k,rfl,rfl,hk⟩:=hrel;have hyb:=Tt.yb_closed k;have hyl:=Tt.ylen_bd (2000 + (k : Int));have HS:=Lh (show Tt.yb (k + 1) = Tt.yb k + Tt.ylen (2000 + (k : Int)) from rfl);by_cases hlt : 2000 + (k : Int) < y
    ·have hyb0 : 0 <= Tt.yb k /\ Tt.yb k <= 40000:=by omega
     clear hyb;have hwr : IntKind.i64.wrap (d - 1 + Tt.yb k + Tt.ylen (2000 + (k : Int))) = d - 1 + Tt.yb k + Tt.ylen (2000 + (k : Int)):=by rw [IntKind.wrap_i64];omega
     go_wp2_with fail;refine (days317 _ w (by omega) (by omega)).mono ?_;rintro e w1 ⟨rfl,hw⟩;rw [hw];clear hw w1;go_wp2_with fail;go_round
     case rel => exact ⟨k + 1,by rw [HS.out];go_num,by go_num,by omega⟩
     case measure => simp [intOf];omega
    ·have HK:=Lh (show k = (y - 2000).toNat by omega);have hyb0 : 0 <= Tt.yb k /\ Tt.yb k <= 40000:=by omega
     clear hyb;go_wp2_with fail;go_loop [8,10] (fun nv mv => ∃ j : Nat,nv = .int .i64 (d - 1 + Tt.yb k + Tt.mb y j) /\ mv = .int .i64 (1 + (j : Int)) /\ 1 + (j : Int) <= m) (fun _ mv => (m - intOf mv).toNat)
     case atStart => exact ⟨0,by simp [Tt.mb],rfl,by omega⟩
     case round =>
      obtain ⟨j,rfl,rfl,hj⟩:=hrel;have hmj:=Tt.mlen_bd y (1 + (j : Int));have hmb:=Tt.mb_bd y j;have HM:=Lh (show Tt.mb y (j + 1) = Tt.mb y j + Tt.mlen y (1 + (j : Int)) from by rw [Tt.mb,Int.add_comm 1 (j : Int)]);by_cases hlt2 : 1 + (j : Int) < m
      ·have hwr : IntKind.i64.wrap (d - 1 + Tt.yb k + Tt.mb y j + Tt.mlen y (1 + (j : Int))) = d - 1 + Tt.yb k + Tt.mb y j + Tt.mlen y (1 + (j : Int)):=by rw [IntKind.wrap_i64];omega
       go_wp2_with fail;refine (length316 y (1 + (j : Int)) w (by omega) (by omega) (by omega) (by omega) HL.out).mono ?_;rintro e w1 ⟨rfl,hw⟩;rw [hw];clear hw w1;go_wp2_with fail;go_round
       case rel => exact ⟨j + 1,by rw [HM.out];go_num,by go_num,by omega⟩
       case measure => simp [intOf];omega
      ·have HJ:=Lh (show j = (m - 1).toNat by omega);go_wp2_with fail;go_ret2;exact ⟨ret_pair (by rw [HR.out,<- HK.out,<- HJ.out];show _ = Tt.yb k + Tt.mb y j + d - 1;omega) (by rw [HR.out]),rfl⟩
end Go.Proofs.YtcomifbfldoeiaaGreatDoor
-- Fold
namespace Go.Proofs.YtcomifbfldoeiaaGreatDoor
open Go.RowKit
theorem bs_app (a b : ByteArray) : (a ++ b).data.toList = a.data.toList ++ b.data.toList:=by simp
theorem bs_size (a b : ByteArray) : (a ++ b).size = a.size + b.size:=by simp
theorem bs_extract_size (t : ByteArray) (a b : Nat) (h : b <= t.size) : (t.extract a b).size = b - a:=by simp;omega
theorem fold_any (s : ByteArray) (w : World) (hs : s.size <= 17592186044416) :
  Calls Tryz.prog 72 #[.string s] w fun e w' => e = .returned (.string ⟨(Tt.fold s.data.toList).toArray⟩) /\ Below w.heap.size w w':=by
 have hbl : Bld w.heap.size (w.heap.size + 1) [] (w.alloc (.cells #[.pointer none,.slice none 0 0] 149)):=Bld.fresh w (w.heap.size + 1) (by omega);have hW : Below w.heap.size w (w.alloc (.cells #[.pointer none,.slice none 0 0] 149)):=(Below.refl _ w).alloc (xa _) _;have hS : w.heap.size + 1 <= (w.alloc (.cells #[.pointer none,.slice none 0 0] 149)).heap.size:=by simp
 go_enter Tryz.func72,Tryz.ntmps72;go_wp2_with fail;go_loopw [0,4] (fun l i wr => ∃ (t : ByteArray) (n : Nat) (acc : List UInt8),l = .string t /\ i = .int .i64 n /\ 74 <= n /\ n <= 75 /\ t.size <= s.size /\ acc.length + 4 * t.size <= 4 * s.size /\ Bld w.heap.size (w.heap.size + 1) acc wr /\ Below w.heap.size w wr /\ w.heap.size + 1 <= wr.heap.size /\ Hid (acc ++ Tt.foldGo t.data.toList.length n t.data.toList = Tt.fold s.data.toList)) (fun l _ _ => match l with | .string t => t.size | _ => 0)
 case atStart => exact ⟨s,75,[],rfl,rfl,by omega,by omega,by omega,by simp,hbl,hW,hS,by show _ = _;simp [Tt.fold]⟩
 case round =>
  obtain ⟨t,n,acc,rfl,rfl,hn1,hn2,hts,hac,hB,hbw,hsz,HU⟩:=hrel;clear hbl hW hS;have HT:=Lh (Lib.size_eq t);by_cases hlt : n < t.size
  ·have hst:=Lh (Tt.foldGo_step t.data.toList.length n t.data.toList (by omega) (xa _) (by rw [<- HT.out];exact hlt));go_wp2_with fail;refine (writeString_any _ _ _ _ _ hB (by rw [bs_size,bs_size,bs_extract_size t 0 n (by omega)];show acc.length + (n - 0 + 2 + 1) <= _;omega) (by omega)).mono ?_;rintro e w1 ⟨rfl,hB1,hbut1⟩;have hsz3:=hbut1.size;go_wp2_with fail;go_roundw
   case rel =>
    refine ⟨t.extract n t.size,74,_,rfl,rfl,by omega,by omega,by rw [bs_extract_size t n t.size (by omega)];omega,?_,hB1,hbw.trans (hbut1.below (xa _) (by omega)),by omega,?_⟩
    ·rw [bs_extract_size t n t.size (by omega),bs_app,bs_app,xc,xc,xc,<- Lib.size_eq (t.extract 0 n),bs_extract_size t 0 n (by omega),show (⟨#[13,10]⟩ : ByteArray).data.toList.length = 2 from rfl,show (⟨#[32]⟩ : ByteArray).data.toList.length = 1 from rfl];omega
    ·show _ = _
     rw [<- HU.out,hst.out,Lib.extract_to_end,bs_app,bs_app,Lib.extract_from_zero];simp
   case measure => simp [bs_extract_size t n t.size];omega
  ·have hst:=Lh (Tt.foldGo_end t.data.toList.length n t.data.toList (by rw [<- HT.out];exact hlt));go_wp2_with fail;refine (writeString_any _ _ _ _ _ hB (by rw [bs_size];show acc.length + (t.size + 2) <= _;omega) (by omega)).mono ?_;rintro e w1 ⟨rfl,hB1,hbut1⟩;have hsz3:=hbut1.size;go_wp2_with fail;refine (string_any _ _ _ _ hB1).mono ?_;rintro e w2 ⟨rfl,hb1⟩;go_wp2_with fail;go_ret;refine ⟨ret_str ?_,(hbw.trans (hbut1.below (xa _) (by omega))).trans hb1⟩;rw [<- HU.out,hst.out]
end Go.Proofs.YtcomifbfldoeiaaGreatDoor
-- Text
namespace Go.Proofs.YtcomifbfldoeiaaGreatDoor
open Go.RowKit
theorem ownsRow_only {w w' : World} {B b : Nat} {e : TypeId} {size : Nat} {v : Value} {n : Nat} {xs : List Value} (h : w.ownsRow B e size v n xs) (hb : b < B) (ho : Only b w w') : w'.ownsRow B e size v n xs:=by
 refine ⟨h.1,?_⟩;rcases h.2 with h1 | ⟨g,cap,cur,r1,r2,r3,r4⟩
 ·exact .inl h1
 ·exact .inr ⟨g,cap,cur,r1,r2,(ho.2.2.2.2 g (by omega)).trans r3,r4⟩
theorem Only.but {b B : Nat} {w w' : World} (h : Only b w w') : But b B w w':=⟨h.1,h.2.1,h.2.2.1,by rw [h.2.2.2.1];exact xa _,fun k _ hk => h.2.2.2.2 k hk⟩
theorem string_of_row {w : World} {B : Nat} {v : Value} {l : List UInt8} (h : w.ownsRow B 5 1 v l.length (Lib.byteCells l)) : (convert 145 9 v).run Tryz.prog w = .ok (.string ⟨l.toArray⟩) w:=by
 rcases h.2 with ⟨hv,h0⟩ | ⟨g,cap,cur,hv,r2,r3,r4⟩
 ·have : l = []:=List.eq_nil_of_length_eq_zero h0;subst this;subst hv;exact run_convert_bytes_nil w 145 5 Tryz.underlying145 Tryz.underlying5 0 0 9 Tryz.underlying9
 ·subst hv;refine run_convert_bytes_back w 145 9 5 ⟨g,0,none⟩ cap l Tryz.underlying145 Tryz.underlying5 Tryz.underlying9 (fun j hj => ?_);exact h.cells (g:=g) rfl j _ (by simp [Lib.byteCells,hj])
theorem text_any (b : Nat) (sg : ByteArray) (m : Int) (w : World) (hd : Dice b w) (h1 : 1 <= sg.size) (h2 : sg.size <= 1000) (hm : 0 <= m) (hm2 : m <= 1000) :
  Calls Tryz.prog 128 #[.pointer (some ⟨b,0,none⟩),.string sg,.int .i64 m] w fun e w' => ∃ x : List UInt8,e = .returned (.string ⟨x.toArray⟩) /\ (x.length : Int) <= m /\ (∀ c ∈ x,c ∈ sg.data.toList) /\ Dice b w' /\ But b w.heap.size w w':=by
 obtain ⟨i0,hi,hz0,hz1,hz2⟩:=info_parts infoByte;have hblt:=hd.lt;go_enter Tryz.func128,Tryz.ntmps128;go_wp2_with fail;refine (next_any b (m + 1) _ hd (by omega) (by omega)).mono ?_;rintro e w1 ⟨v0,rfl,hv0,hv1,_,hd1,ho1⟩;have hv2 : v0 <= m:=by have:=hv1 (by omega);omega
 obtain ⟨k0,rfl⟩ : ∃ k0 : Nat,v0 = k0:=⟨v0.toNat,by omega⟩
 have hs1 : w.heap.size <= w1.heap.size:=by rw [ho1.2.2.2.1];exact xa _
 clear hv1 hv0;go_wp2_with fail;go_loopw [7,8] (fun v n wr => ∃ (k : Nat) (acc : List UInt8),n = .int .i64 k /\ (acc.length : Int) + k <= m /\ wr.ownsRow w.heap.size 5 1 v acc.length (Lib.byteCells acc) /\ (∀ c ∈ acc,c ∈ sg.data.toList) /\ Dice b wr /\ But b w.heap.size w wr) (fun _ n _ => (intOf n).toNat)
 case atStart => exact ⟨k0,[],rfl,by simpa using hv2,World.ownsRow_nil _ _ _ _,by simp,hd1,ho1.but⟩
 case round =>
  clear hv2 hd1 ho1 hs1;obtain ⟨k,acc,rfl,hk,hown,hin,hdr,hbut⟩:=hrel;have hsz:=hbut.size;by_cases hlt : 0 < k
  ·go_wp2_with fail;refine (next_any b sg.size _ hdr (by omega) (by omega)).mono ?_;rintro e w2 ⟨v1,rfl,hv0,hv1,_,hd2,ho2⟩;have hv2:=hv1 (by omega);obtain ⟨j,rfl⟩ : ∃ j : Nat,v1 = j:=⟨v1.toNat,by omega⟩
   have hown2:=ownsRow_only hown hblt ho2;have hlt2 : j < sg.size:=by omega
   obtain ⟨c,hx⟩ : ∃ c : UInt8,sg[j]'hlt2 = c:=⟨_,rfl⟩
   have HC:=Lh (show c ∈ sg.data.toList from by
    have:=Lib.data_getElem? sg j hlt2;rw [hx] at this;exact List.mem_of_getElem? this)
   have hbut2:=hbut.trans (ho2.but (B:=w.heap.size));have hsz2:=hbut2.size;clear hv1 ho2;go_wp2_with (at_builtin;refine wpList_append_own _ rfl _ _ 145 rfl w.heap.size 5 i0 (.int .u8 0) 1 1 Tryz.underlying145 hi hz0 hz1 hz2 rfl (by decide) _ _ _ rfl (hown2.alloc _) ⟨w2.heap.size,0,none⟩ 1 1 [.int .u8 c.toNat] rfl rfl ?c1 ?c2 ?c3 ?c4 ?c5 ?_)
   case c1 =>
    intro j u hj;match j,hj with
    | 0,hj => simp at hj;subst hj;simp [Addr.add]
   case c2 => intro u hu;simp at hu;subst hu;rfl
   case c3 => unfold maxLen;omega
   case c4 => omega
   case c5 => simp;omega
   intro v' w3 hown' hgrow _;have hblk : ∀ i,i < w.heap.size -> w3.heap[i]? = w2.heap[i]?:=by
    intro i hi;rw [hgrow.block i (by simp;omega) (by intro e;have:=(hown2.lt i e.symm).1;omega),Lib.alloc_old w2 _ i (by omega)]
   have hbel : Below w.heap.size w2 w3:=⟨hgrow.os,hgrow.tape,hgrow.output,by have:=hgrow.size;simp at this;omega,hblk⟩
   have hd3:=hd2.kept hblt hbel;have hbut3:=hbut2.trans (But.of_below hbel);clear hgrow hblk hbel hown hown2 hdr hbut hd2;go_wp2_with fail;go_roundw
   case rel =>
    refine ⟨k - 1,acc ++ [c],by go_num,by simp;omega,by simpa [Lib.byteCells] using hown',?_,hd3,hbut3⟩;intro x hx;rcases List.mem_append.1 hx with h | h
    ·exact hin x h
    ·simp at h;subst h;exact HC.out
   case measure => simp [intOf];omega
  ·have hcv:=string_of_row hown;go_wp2_with fail;go_ret;exact ⟨acc,rfl,by omega,hin,hdr,hbut⟩
end Go.Proofs.YtcomifbfldoeiaaGreatDoor
-- Same
namespace Go.Proofs.YtcomifbfldoeiaaGreatDoor
open Go.RowKit
def StrAt (w : World) (ao : Option Addr) (xs : List ByteArray) : Prop:=∀ j x,xs[j]? = some x -> ∃ a,ao = some a /\ w.cell? (a.add j) = some (.string x)
theorem str_eq (x y : ByteArray) (h : x = y) : (x.toList == y.toList) = true:=by rw [h];exact beq_self_eq_true _
theorem str_ne (x y : ByteArray) (h : ¬ x = y) : (x.toList == y.toList) = false:=by
 rw [beq_eq_false_iff_ne];intro e;apply h;rw [Lib.toList_data,Lib.toList_data] at e;rw [<- Lib.mk_data x,<- Lib.mk_data y,e]
end Go.Proofs.YtcomifbfldoeiaaGreatDoor
